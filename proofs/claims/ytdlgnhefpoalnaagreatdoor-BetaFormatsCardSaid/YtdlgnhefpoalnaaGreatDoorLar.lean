/- Beta's Format: the walk of rule. Conditions: the text is at most 2^47 bytes; Go's own tables lie below it. -/
import Derived.Test.YtdlgnhefpoalnaaGreatDoorLap
import Derived.Test.YtdlgnhefpoalnaaGreatDoorLaq
set_option maxHeartbeats 8000000
set_option maxRecDepth 100000
namespace Go.Proofs.YtdlgnhefpoalnaaGreatDoor
open Lib (hid)
open Go.RowKit
theorem zAu(d:Nat){α:Type}(N:α→Nd){l:List α}{k:Nat}(h:k<l.length):textL d ((l.take (k+1)).map N)=textL d ((l.take k).map N)++textN d (N l[k]):=by
 rw[List.take_succ_eq_append_getElem h,List.map_append,zBt,List.map_cons,List.map_nil,zAz]
theorem zAy(d:Nat){α:Type}(N:α→Nd){l:List α}{k:Nat}(h:k<l.length):(textL d ((l.take k).map N)).length+(textN d (N l[k])).length≤(textL d (l.map N)).length:=by
 have h1:=zAu d N h;have h2:l.map N=(l.take (k+1)).map N++(l.drop (k+1)).map N:=by rw[←List.map_append,List.take_append_drop]
 rw[h2,zBt,h1,yA,yA];omega
theorem zBc(d:Nat){α:Type}(N:α→Nd){l:List α}{k:Nat}(h:¬k<l.length):textL d ((l.take k).map N)=textL d (l.map N):=by rw[List.take_of_length_le (by omega)]
def okRd(x:Rd):Prop:=(0≤x.metric∧x.metric≤16777215)∧(0≤x.tag∧x.tag≤65535)∧0≤x.typ∧x.typ≤2
theorem zIm(g d:Nat)(s:List UInt8)(l:List Rd)(v:Value)(w:World)(B:Nat)(h:TX g d s w)(he:EnvA g w)(hB:B≤g)(hv:SlV w B 5 Rd.C v l)(hx:∀x∈l,okRd x)(hl:(s++textL d (l.map rdN)).length≤140737488355328) :
  Calls Tryz.prog 109 #[.pointer (some ⟨g,0,none⟩),v] w (TP g d s (textL d (l.map rdN)) w):=by
 have HL:=hid hl;have HV:=hid hv;have hln:l.length≤9223372036854775807:=by have:=hv.len;unfold maxLen at this;omega
 obtain⟨A,c,hve,hle,-⟩:=hv;have hg:=hid h.lt;have HEA:Hid (∀W,FK g w W→EnvA g W):=hid fun W hk=>he.keep (hk.below (Nat.le_of_lt hg.out))
 have HE:Hid (∀W,FK g w W→Env W):=hid fun W hk=>(HEA.out W hk).1
 have H:=hid h;replace hx:=hid hx;replace hB:=hid hB;clear hl h he;subst hve;go_enter Tryz.func109,Tryz.ntmps109;go_wp2;go_loopg [8] l.length (fun gh ix wr=>∃k:Nat,k+gh=l.length∧ix=.int .i64 k∧Hid (TX g d (s++textL d ((l.take k).map rdN)) wr∧FK g w wr));case atStart=>exact⟨0,by omega,rfl,hid ⟨by rw[List.take_zero,List.map_nil,textL,yF];exact H.out,FK.refl _ _⟩⟩
 case round=>
  obtain⟨k,hk,rfl,HR⟩:=hrel;by_cases hlt:k<l.length;case neg=>
   have hkz:¬((k:Int)<(l.length:Int)):=by omega
   have E:=zBc d rdN hlt;go_wp2_with fail;go_end0;exact⟨rfl,by rw[←E];exact HR.out.1,HR.out.2⟩
  have hkz:(k:Int)<(l.length:Int):=by omega
  obtain⟨gr,o,c', e',-,hgr,R0⟩:=SlV.elem (n:=5) (by decide) (fun _=>rfl) HV.out hlt;injection e' with e1 e2 e3
  subst e1 e3;have r1:=hid (zAg R0 ((HR.out.2.below (Nat.le_of_lt hg.out)).mono hB.out) hgr);clear R0 e2;have HX:=hid (hx.out _ (List.getElem_mem hlt));have ET:=hid (zAu d rdN hlt);have HP:=hid (zAy d rdN hlt);generalize l[k]=x at HX ET HP r1;go_upto_region 3 with(first|(refine zAa rfl 230 _ rfl rfl r1.out Tryz.rowRd Tryz.sizeRd ?_)|(refine zAd rfl 230 _ _ rfl rfl rfl (HasC.new wr _ _) rfl Tryz.sizeRd (Rd.one x) ?_;intro w4 hz1 hz2))
  obtain⟨p,hp⟩:∃zz,zz=s++textL d ((l.take k).map rdN):=⟨_,rfl⟩;have hb:=zAi hz2;have H4:Hid (XT 230 wr.heap.size x.C g d p w w4):=hid ⟨by rw[hp];exact HR.out.1.keep hb,hz1,HR.out.2.trans (.of_below hb),by have:=HR.out.1.lt;omega,by decide⟩;have HN:Hid (textN d (rdN x)=lineW d [[105,109,112,111,114,116],srcN x.frm] [32,123]++(textL (d+1) (rdP 0 x)++(textL (d+1) (rdP 1 x)++(textL (d+1) (rdP 2 x)++(textL (d+1) (rdP 3 x)))))++lineW d [] [125]):=hid (by rw[rdN,zBm,rdK,zBt,zBt,zBt]);have HM:Hid (p.length+(lineW d [[105,109,112,111,114,116],srcN x.frm] [32,123]++(textL (d+1) (rdP 0 x)++(textL (d+1) (rdP 1 x)++(textL (d+1) (rdP 2 x)++(textL (d+1) (rdP 3 x)))))++lineW d [] [125]).length≤140737488355328):=hid (by rw[←HN.out,hp,yA];have h1:=HL.out;have h2:=HP.out;simp only[yA]at h1⊢;omega);clear hz1 hz2 r1 HR hb HP;generalize wr.heap.size=gx at H4⊢;obtain⟨k1,k2,k3⟩:=HX.out;have HS0:∀W,Calls Tryz.prog 191 #[.int .i64 x.frm] W fun e w' => e=.returned (.string (str (srcN x.frm)))∧Below W.heap.size W w' := fun W=>(zIv x.frm W).mono fun e w' ⟨h1,h2⟩=>⟨h1,h2 ▸ Below.refl _ _⟩
  have c0:=cl0 H4.out.x;go_wp2_with fail;refine(HS0 _).mono ?_;rintro e w1 ⟨rfl,hb⟩;have H1:=hid (H4.out.below hb);clear hb;go_wp2_with fail;refine(zEn H1.out [[105,109,112,111,114,116],srcN x.frm] (by simp) (by have:=HM.out;simp only[yA]at this⊢;omega)).mono ?_;rintro e w5 ⟨rfl,h2,k2⟩;have H5:=hid h2;clear h2 k2 H1;clear H4 c0;have c1:=cl1 H5.out.x;have E6:textL (d+1) (rdP 0 x)=lineW (d+1) [[109,101,116,114,105,99],decI x.metric] [59]:=by rw[show rdP 0 x=[stn [[109,101,116,114,105,99],decI x.metric]]from rfl,zAz,zAn]
  go_wp2_with fail;refine(zCc x.metric k1.1 k1.2 _ (HE.out _ H5.out.k)).mono ?_;rintro e w1 ⟨rfl,hb⟩;have H1:=hid (H5.out.below hb);clear hb;go_wp2_with fail;refine(zBd H1.out [[109,101,116,114,105,99],decI x.metric] (by simp) (by rw[←E6];have:=HM.out;simp only[yA]at this⊢;omega)).mono ?_;rintro e w6 ⟨rfl,h2,k2⟩;rw[←E6]at h2;have H6:=hid h2;clear h2 k2 E6 H1;clear H5 c1;have c2:=cl2 H6.out.x;go_upto_if 26 with fail
  go_cut [] (fun wx=>XT 230 gx x.C g (d+1) (p++lineW d [[105,109,112,111,114,116],srcN x.frm] [32,123]++textL (d+1) (rdP 0 x)++textL (d+1) (rdP 1 x)) w wx)
  case first=>
   cases hc:(!(x.tag==0))with
   |true=>
    have E:textL (d+1) (rdP 1 x)=lineW (d+1) [[116,97,103],decI x.tag] [59]:=zAq hc;have hs:(x.tag != 0)=true:=hc;rw[hs];go_wp2_with fail;refine(zCc x.tag k2.1 (by omega) _ (HE.out _ H6.out.k)).mono ?_;rintro e w1 ⟨rfl,hb⟩;have H1:=hid (H6.out.below hb);clear hb;go_wp2_with fail;refine(zBd H1.out [[116,97,103],decI x.tag] (by simp) (by rw[←E];have:=HM.out;simp only[yA]at this⊢;omega)).mono ?_;rintro e w2 ⟨rfl,h2,k2⟩;have H2:=hid h2;clear h2 k2;go_wp2;go_meet;rw[E];exact H2.out
   |false=>
    have hs:(x.tag != 0)=false:=hc;rw[hs];go_wp2;go_meet;rw[show textL (d+1) (rdP 1 x)=[]from zAl hc,yF];exact H6.out
  case rest=>
  clear H6 c2;have H:=hid hcut;clear hcut;have c3:wc.cell? ⟨gx,3,none⟩=some (.string (str x.map)):=H.out.x.cell 3;go_wp2_with fail;refine(zFq H.out [112,111,108,105,99,121] (x.map) (by rw[show nameN [112,111,108,105,99,121] (x.map)=rdP 2 x from rfl];have:=HM.out;simp only[yA]at this⊢;omega)).mono ?_;rintro e w7 ⟨rfl,h2,k2⟩;rw[show nameN [112,111,108,105,99,121] (x.map)=rdP 2 x from rfl]at h2;have H7:=hid h2;clear h2 k2;clear H c3;have c4:=cl4 H7.out.x;go_upto_if 39 with fail
  go_cut [] (fun wx=>XT 230 gx x.C g (d+1) (p++lineW d [[105,109,112,111,114,116],srcN x.frm] [32,123]++textL (d+1) (rdP 0 x)++textL (d+1) (rdP 1 x)++textL (d+1) (rdP 2 x)++textL (d+1) (rdP 3 x)) w wx)
  case first=>
   cases hc:(!(x.typ==0))with
   |true=>
    have E:textL (d+1) (rdP 3 x)=lineW (d+1) [[116,121,112,101],decI x.typ] [59]:=zAq hc;have hs:(x.typ != 0)=true:=hc;rw[hs];go_wp2_with fail;refine(zCc x.typ k3.1 (by omega) _ (HE.out _ H7.out.k)).mono ?_;rintro e w1 ⟨rfl,hb⟩;have H1:=hid (H7.out.below hb);clear hb;go_wp2_with fail;refine(zBd H1.out [[116,121,112,101],decI x.typ] (by simp) (by rw[←E];have:=HM.out;simp only[yA]at this⊢;omega)).mono ?_;rintro e w2 ⟨rfl,h2,k2⟩;have H2:=hid h2;clear h2 k2;go_wp2;go_meet;rw[E];exact H2.out
   |false=>
    have hs:(x.typ != 0)=false:=hc;rw[hs];go_wp2;go_meet;rw[show textL (d+1) (rdP 3 x)=[]from zAl hc,yF];exact H7.out
  case rest=>
  clear H7 c4;have H:=hid hcut;clear hcut;go_wp2_with fail;refine(zFp H.out (by have:=HM.out;simp only[yA]at this⊢;omega)).mono ?_;rintro e w8 ⟨rfl,h2,k2⟩;have H8:=hid h2;clear h2 k2;clear H;go_wp2;go_roundg (l.length - (k+1));case measure=>omega
  case rel=>
   refine⟨k+1,by omega,by go_num,hid ⟨?_,H8.out.k⟩⟩;have:=H8.out.t;rw[hp]at this;rw[ET.out,HN.out];simpa only[yE] using this
theorem zMx{maps:List RMap}{into least most types:Int}{l:List Rd}(h:redE maps into least most types l=0)(h0:0≤least)(h1:most≤16777215)(h2:0≤types)(h3:types≤2):∀x∈l,okRd x:=fun x hx=>by
 have:=zEb (by decide) h x hx;unfold redF at this;obtain⟨g,_⟩:=zDh this;simp only[Bool.and_eq_true]at g;have a:=zAp g.1.1.2;have b:=zAp g.1.2;have c:=zAp g.2;refine⟨⟨by omega,by omega⟩,b,?_,by omega⟩;have:=c.1;omega
structure Fits (r:Rt):Prop where
 asn:0≤r.asn∧r.asn≤65535
 ifs:∀x∈r.ifs,zDj x=true∧x.fit
 lists:∀x∈r.lists,∀y∈x.rules,zFa y=true∧y.fit
 maps:∀x∈r.maps,∀y∈x.clauses,zDg y=true
 acls:∀x∈r.acls,∀y∈x.rules,zDl y=true∧y.fit
 nat:∀x∈r.nat,zBl x=true∧x.fit
 stat:∀x∈r.stat,zAv x.pa x.pl=true∧(1≤x.admin∧x.admin≤255)∧(0≤x.tag∧x.tag≤65535)∧x.fit
 ls:r.lsOn=true→(1≤r.lsAdmin∧r.lsAdmin≤255)∧(∀x∈r.ranges,(0≤x.area∧x.area≤255)∧zAv x.pa x.pl=true∧x.fit)∧∀x∈r.lsRed,okRd x
 dv:r.dvOn=true→(1≤r.dvAdmin∧r.dvAdmin≤255)∧∀x∈r.dvRed,okRd x
 pv:r.pvOn=true→(1≤r.ext∧r.ext≤255)∧(1≤r.int∧r.int≤255)∧(∀x∈r.nb,(1≤x.asn∧x.asn≤65535)∧x.fit)∧(∀x∈r.net,zAv x.pa x.pl=true∧x.fit)∧(∀x∈r.ag,zAv x.pa x.pl=true∧x.fit)∧(∀x∈r.cd,zAv x.pa x.pl=true∧zAv x.ia x.il=true∧x.fit)∧∀x∈r.pvRed,okRd x
theorem zLk{r:Rt}(h:zBw r=0)(hf:r.fit):Fits r:=by
 obtain⟨z1,z2,z3,z4,z5,z6,z7,z8,z9,z10,z11,z12⟩:=zKn h;obtain⟨f1,f2,f3,f4,f5,f6,f7,f8,f9,f10,f11,f12,f13,f14⟩:=hf;refine⟨zAp z2,zGz fun k hk=>⟨((ifs_ok z3).2 k hk).2.2.1,f1 _ (List.getElem_mem hk)⟩,?_,?_,?_,?_,?_,fun ho=>?_,fun ho=>?_,fun ho=>?_⟩
 ·intro x hx y hy
  have:=zGn (sub:=fun x:PList=>x.rules) (f:=prE) (show lsE (·.name) (·.rules.length) (fun x=>zAk prE x.rules) 16 r.lists=0 from z4) x hx y hy;exact⟨zFy this,f2 x hx y hy⟩
 ·intro x hx y hy
  have:=zGn (sub:=fun x:RMap=>x.clauses) (f:=clE r.lists) (show lsE (·.name) (·.clauses.length) (fun x=>zAk (clE r.lists) x.clauses) 8 r.maps=0 from z5) x hx y hy;unfold clE at this;split at this
  ·cases this
  ·exact zFy this
 ·intro x hx y hy
  have:=zGn (sub:=fun x:AList=>x.rules) (f:=ruE) (show lsE (·.name) (·.rules.length) (fun x=>zAk ruE x.rules) 16 r.acls=0 from z6) x hx y hy;exact⟨zFy this,f4 x hx y hy⟩
 ·intro x hx
  unfold natsE at z7;split at z7
  ·cases z7
  ·have:=zIz z7 x hx
   unfold natE at this;exact⟨(zDh this).1,f5 x hx⟩
 ·intro x hx
  have:=zEb (by decide) z9 x hx;unfold staF at this;have:=(zDh this).1;unfold zGj at this;simp only[Bool.and_eq_true]at this;exact⟨this.1.1.1.1,zAp this.1.2,zAp this.2,f6 x hx⟩
 ·unfold lnkE at z10
  rw[ho,if_pos rfl]at z10;obtain⟨hw,h⟩:=zDh z10;obtain⟨g1,g2⟩:=zCe h;refine⟨zAp hw,fun x hx=>?_,zMx g2 (by decide) (by decide) (by decide) (by decide)⟩;have:=zFy (zEb (by decide) g1 x hx);simp only[Bool.and_eq_true]at this;exact⟨zAp this.1,this.2,f7 x hx⟩
 ·unfold dvE at z11
  rw[ho,if_pos rfl]at z11;obtain⟨hw,h⟩:=zDh z11;exact⟨zAp hw,zMx (zCe h).2 (by decide) (by decide) (by decide) (by decide)⟩
 ·unfold pvE at z12
  rw[ho,if_pos rfl]at z12;obtain⟨hw,h⟩:=zDh z12;simp only[Bool.and_eq_true]at hw;obtain⟨g1,h⟩:=zCe h;obtain⟨g2,g3⟩:=zCe h;unfold origE at g2;obtain⟨g4,g2⟩:=zCe g2;obtain⟨g5,g6⟩:=zCe g2;refine⟨zAp hw.1.2,zAp hw.2,fun x hx=>?_,fun x hx=>⟨zFy (zEb (by decide) g4 x hx),f11 x hx⟩,fun x hx=>⟨zFy (zEb (by decide) g5 x hx),f12 x hx⟩,fun x hx=>?_,zMx g3 (by decide) (by decide) (by decide) (by decide)⟩
  ·have:=zEb (by decide) g1 x hx
   unfold nbF at this;have:=(zDh this).1;simp only[Bool.and_eq_true]at this;exact⟨zAp this.2,f10 x hx⟩
  ·have:=zEb (by decide) g6 x hx
   unfold cdF at this;have:=(zDh this).1;simp only[Bool.and_eq_true]at this;exact⟨this.1,this.2,f13 x hx⟩
theorem open_tx{g d:Nat}{s:List UInt8}{w0 w:World}(h:TX g d s w)(hk:FK g w0 w)(ws:List (List UInt8))(hn:ws.length≤1000)(hl:s.length+(lineW d ws [32,123]).length≤140737488355328) :
  Calls Tryz.prog 27 #[.pointer (some ⟨g,0,none⟩),.slice (some ⟨w.heap.size,0,none⟩) ws.length ws.length] (w.alloc (.cells (ws.map strV).toArray 9)) fun e w' => e=.returned (.tuple #[])∧TX g (d+1) (s++lineW d ws [32,123]) w' ∧ FK g w0 w' := by
 have hb:=(Below.refl w.heap.size w).alloc (yI _) (.cells (ws.map strV).toArray 9);refine(open_any g d s _ ws _ (h.keep hb) (.new (by have:=h.lt;omega) (HasC.new w _ _)) hn hl).mono ?_;rintro e w2 ⟨rfl,h2,k2⟩;exact⟨rfl,h2,(hk.trans (.of_below hb)).trans k2⟩
theorem close_tx{g d:Nat}{s:List UInt8}{w0 w:World}(h:TX g (d+1) s w)(hk:FK g w0 w)(hl:s.length+(lineW d [] [125]).length≤140737488355328) :
  Calls Tryz.prog 30 #[.pointer (some ⟨g,0,none⟩)] w fun e w' => e=.returned (.tuple #[])∧TX g d (s++lineW d [] [125]) w' ∧ FK g w0 w' := by
 refine(close_any g d s w h hl).mono ?_;rintro e w2 ⟨rfl,h2,k2⟩;exact⟨rfl,h2,hk.trans k2⟩
theorem fifaces_any(g d:Nat)(s:List UInt8)(l:List If)(v:Value)(w:World)(B:Nat)(h:TX g d s w)(he:EnvA g w)(hB:B≤g)(hv:SlV w B 12 If.C v l)(hx:∀x∈l,zDj x=true∧x.fit)(hl:(s++textL d (ifsN l)).length≤140737488355328) :
  Calls Tryz.prog 31 #[.pointer (some ⟨g,0,none⟩),v] w (TP g d s (textL d (ifsN l)) w):=by
 have HV:=hid hv;have hln:l.length≤9223372036854775807:=by have:=hv.len;unfold maxLen at this;omega
 obtain⟨A,c,hve,hle,-⟩:=hv;have hg:=hid h.lt;have HEA:Hid (∀W,FK g w W→EnvA g W):=hid fun W hk=>he.keep (hk.below (Nat.le_of_lt hg.out))
 have HE:Hid (∀W,FK g w W→Env W):=hid fun W hk=>(HEA.out W hk).1
 have H:=hid h;replace hx:=hid hx;replace hB:=hid hB;clear h he;subst hve;cases hem:l.isEmpty with
 |true=>
  obtain rfl:=List.isEmpty_iff.1 hem;go_enter Tryz.func31,Tryz.ntmps31;go_wp2_with fail;go_end0;exact⟨rfl,by rw[show ifsN []=[]from rfl,textL,yF];exact H.out,FK.refl _ _⟩
 |false=>
 have hz:((l.length:Int)==0)=false:=by
  cases l with
  |nil=>cases hem
  |cons a b=>rw[beq_eq_false_iff_ne];simp only[yG];omega
 have EL:Hid (textL d (ifsN l)=lineW d [[105,110,116,101,114,102,97,99,101,115]] [32,123]++textL (d+1) (l.map ifN)++lineW d [] [125]):=hid (by rw[ifsN,hem,if_neg (by decide),zAz,zBm]);rw[EL.out]at hl;have HL:=hid hl;clear hl hem;go_enter Tryz.func31,Tryz.ntmps31;go_wp2_with fail;refine(open_tx H.out (FK.refl _ _) [[105,110,116,101,114,102,97,99,101,115]] (by simp) (by have:=HL.out;simp only[yA]at this⊢;omega)).mono ?_;rintro e w2 ⟨rfl,h2,k2⟩;have H2:=hid (And.intro h2 k2);clear h2 k2 H;go_wp2;go_loopg [14] l.length (fun gh ix wr=>∃k:Nat,k+gh=l.length∧ix=.int .i64 k∧Hid (TX g (d+1) (s++lineW d [[105,110,116,101,114,102,97,99,101,115]] [32,123]++textL (d+1) ((l.take k).map ifN)) wr∧FK g w wr));case atStart=>exact⟨0,by omega,rfl,hid ⟨by rw[List.take_zero,List.map_nil,textL,yF];exact H2.out.1,H2.out.2⟩⟩
 case round=>
  obtain⟨k,hk,rfl,HR⟩:=hrel;by_cases hlt:k<l.length;case neg=>
   have hkz:¬((k:Int)<(l.length:Int)):=by omega
   have E:=zBc (d+1) ifN hlt;go_wp2_with fail;refine(close_tx HR.out.1 HR.out.2 (by rw[E];have:=HL.out;simp only[yA]at this⊢;omega)).mono ?_;rintro e w3 ⟨rfl,h3,k3⟩;have R:=hid (And.intro h3 k3);clear h3 k3;go_wp2_with fail;go_end0;refine⟨rfl,?_,R.out.2⟩;have:=R.out.1;rw[E]at this;rw[EL.out];simpa only[yE] using this
  have hkz:(k:Int)<(l.length:Int):=by omega
  obtain⟨gr,o,c', e',-,hgr,R0⟩:=SlV.elem (n:=12) (by decide) (fun _=>rfl) HV.out hlt;injection e' with e1 e2 e3
  subst e1 e3;have r1:=hid (zAg R0 ((HR.out.2.below (Nat.le_of_lt hg.out)).mono hB.out) hgr);clear R0 e2;have HX:=hid (hx.out _ (List.getElem_mem hlt));have ET:=hid (zAu (d+1) ifN hlt);have HP:=hid (zAy (d+1) ifN hlt);generalize l[k]=x at HX ET HP r1;go_upto_region 5 with(first|(refine zAa rfl 72 _ rfl rfl r1.out Tryz.rowIf Tryz.sizeIf ?_)|(refine zAd rfl 72 _ _ rfl rfl rfl (HasC.new wr _ _) rfl Tryz.sizeIf (If.one x) ?_;intro w4 hz1 hz2))
  obtain⟨p,hp⟩:∃zz,zz=s++lineW d [[105,110,116,101,114,102,97,99,101,115]] [32,123]++textL (d+1) ((l.take k).map ifN):=⟨_,rfl⟩;have hb:=zAi hz2;have H4:Hid (XT 72 wr.heap.size x.C g (d+1) p w w4):=hid ⟨by rw[hp];exact HR.out.1.keep hb,hz1,HR.out.2.trans (.of_below hb),by have:=HR.out.1.lt;omega,by decide⟩;have HN:Hid (textN (d+1) (ifN x)=lineW (d+1) [x.name] [32,123]++(textL ((d+1)+1) (ifP 0 x)++(textL ((d+1)+1) (ifP 1 x)++(textL ((d+1)+1) (ifP 2 x)++(textL ((d+1)+1) (ifP 3 x)++(textL ((d+1)+1) (ifP 4 x)++(textL ((d+1)+1) (ifP 5 x)++(textL ((d+1)+1) (ifP 6 x)++(textL ((d+1)+1) (ifP 7 x)))))))))++lineW (d+1) [] [125]):=hid (by rw[ifN,zBm,ifK];simp only[zBt]);have HM:Hid (p.length+(lineW (d+1) [x.name] [32,123]++(textL ((d+1)+1) (ifP 0 x)++(textL ((d+1)+1) (ifP 1 x)++(textL ((d+1)+1) (ifP 2 x)++(textL ((d+1)+1) (ifP 3 x)++(textL ((d+1)+1) (ifP 4 x)++(textL ((d+1)+1) (ifP 5 x)++(textL ((d+1)+1) (ifP 6 x)++(textL ((d+1)+1) (ifP 7 x)))))))))++lineW (d+1) [] [125]).length≤140737488355328):=hid (by rw[←HN.out,hp,yA];have h1:=HL.out;have h2:=HP.out;simp only[yA]at h1⊢;omega);clear hz1 hz2 r1 HR hb HP;generalize wr.heap.size=gx at H4⊢;obtain⟨hr,hf⟩:=HX.out;obtain⟨k1,k2,k3,-,k5,k6,-⟩:=ifc_ok hr;clear hr;have c0:w4.cell? ⟨gx,0,none⟩=some (.string (str x.name)):=H4.out.x.cell 0;go_wp2_with fail;refine(zEn H4.out [x.name] (by simp) (by have:=HM.out;simp only[yA]at this⊢;omega)).mono ?_;rintro e w5 ⟨rfl,h2,k2⟩;have H5:=hid h2;clear h2 k2;clear H4 c0;obtain⟨-,c1,c2⟩:=bl3 H5.out.x;go_upto_if 25 with fail
  go_cut [] (fun wx=>XT 72 gx x.C g ((d+1)+1) (p++lineW (d+1) [x.name] [32,123]++textL ((d+1)+1) (ifP 0 x)) w wx)
  case first=>
   cases hc:(!(x.len==0))with
   |true=>
    have E:textL ((d+1)+1) (ifP 0 x)=lineW ((d+1)+1) [[97,100,100,114,101,115,115],hostF x.addr x.len] [59]:=zAq hc;have hs:(x.len != 0)=true:=hc;rw[hs];go_wp2_with fail;refine(zHl x.addr x.len _ hf (HE.out _ H5.out.k)).mono ?_;rintro e w1 ⟨rfl,hb⟩;have H1:=hid (H5.out.below hb);clear hb;go_wp2_with fail;refine(zBd H1.out [[97,100,100,114,101,115,115],hostF x.addr x.len] (by simp) (by rw[←E];have:=HM.out;simp only[yA]at this⊢;omega)).mono ?_;rintro e w2 ⟨rfl,h2,k2⟩;have H2:=hid h2;clear h2 k2;go_wp2;go_meet;rw[E];exact H2.out
   |false=>
    have hs:(x.len != 0)=false:=hc;rw[hs];go_wp2;go_meet;rw[show textL ((d+1)+1) (ifP 0 x)=[]from zAl hc,yF];exact H5.out
  case rest=>
  clear H5 c1 c2;have H:=hid hcut;clear hcut;have c3:=cl3 H.out.x;go_upto_if 36 with fail
  go_cut [] (fun wx=>XT 72 gx x.C g ((d+1)+1) (p++lineW (d+1) [x.name] [32,123]++textL ((d+1)+1) (ifP 0 x)++textL ((d+1)+1) (ifP 1 x)) w wx)
  case first=>
   cases hc:(!(x.vlan==0))with
   |true=>
    have E:textL ((d+1)+1) (ifP 1 x)=lineW ((d+1)+1) [[118,108,97,110],decI x.vlan] [59]:=zAq hc;have hs:(x.vlan != 0)=true:=hc;rw[hs];go_wp2_with fail;refine(zCc x.vlan k2.1 (by omega) _ (HE.out _ H.out.k)).mono ?_;rintro e w1 ⟨rfl,hb⟩;have H1:=hid (H.out.below hb);clear hb;go_wp2_with fail;refine(zBd H1.out [[118,108,97,110],decI x.vlan] (by simp) (by rw[←E];have:=HM.out;simp only[yA]at this⊢;omega)).mono ?_;rintro e w2 ⟨rfl,h2,k2⟩;have H2:=hid h2;clear h2 k2;go_wp2;go_meet;rw[E];exact H2.out
   |false=>
    have hs:(x.vlan != 0)=false:=hc;rw[hs];go_wp2;go_meet;rw[show textL ((d+1)+1) (ifP 1 x)=[]from zAl hc,yF];exact H.out
  case rest=>
  clear H c3;have H:=hid hcut;clear hcut;have c4:=cl4 H.out.x;go_upto_if 44 with fail
  go_cut [] (fun wx=>XT 72 gx x.C g ((d+1)+1) (p++lineW (d+1) [x.name] [32,123]++textL ((d+1)+1) (ifP 0 x)++textL ((d+1)+1) (ifP 1 x)++textL ((d+1)+1) (ifP 2 x)) w wx)
  case first=>
   cases hc:(x.down)with
   |true=>
    have E:textL ((d+1)+1) (ifP 2 x)=lineW ((d+1)+1) [[100,105,115,97,98,108,101]] [59]:=zAq hc;go_wp2_with fail;refine(zBd H.out [[100,105,115,97,98,108,101]] (by simp) (by rw[←E];have:=HM.out;simp only[yA]at this⊢;omega)).mono ?_;rintro e w2 ⟨rfl,h2,k2⟩;have H2:=hid h2;clear h2 k2;go_wp2;go_meet;rw[E];exact H2.out
   |false=>
    go_wp2;go_meet;rw[show textL ((d+1)+1) (ifP 2 x)=[]from zAl hc,yF];exact H.out
  case rest=>
  clear H c4;have H:=hid hcut;clear hcut;have c5:=cl5 H.out.x;go_upto_if 49 with fail
  go_cut [] (fun wx=>XT 72 gx x.C g ((d+1)+1) (p++lineW (d+1) [x.name] [32,123]++textL ((d+1)+1) (ifP 0 x)++textL ((d+1)+1) (ifP 1 x)++textL ((d+1)+1) (ifP 2 x)++textL ((d+1)+1) (ifP 3 x)) w wx)
  case first=>
   cases hc:(x.ls)with
   |true=>
    have E:textL ((d+1)+1) (ifP 3 x)=lineW ((d+1)+1) [[108,105,110,107,45,115,116,97,116,101],[97,114,101,97],decI x.area,[99,111,115,116],decI x.cost] [59]:=zAq hc;go_upto_region 13 with fail
    have HX:Hid (∀W,XT 72 gx x.C g ((d+1)+1) (p++lineW (d+1) [x.name] [32,123]++textL ((d+1)+1) (ifP 0 x)++textL ((d+1)+1) (ifP 1 x)++textL ((d+1)+1) (ifP 2 x)) w W→W.cell? ⟨gx,6,none⟩=some (.int .i64 x.area)∧W.cell? ⟨gx,7,none⟩=some (.int .i64 x.cost)):=hid fun W hW=>⟨hW.x.cell 6,hW.x.cell 7⟩
    have Q0:Hid (∀W,XT 72 gx x.C g ((d+1)+1) (p++lineW (d+1) [x.name] [32,123]++textL ((d+1)+1) (ifP 0 x)++textL ((d+1)+1) (ifP 1 x)++textL ((d+1)+1) (ifP 2 x)) w W→Calls Tryz.prog 29 #[.int .i64 x.area] W fun e w' => e=.returned (.string (str (decI x.area)))∧XT 72 gx x.C g ((d+1)+1) (p++lineW (d+1) [x.name] [32,123]++textL ((d+1)+1) (ifP 0 x)++textL ((d+1)+1) (ifP 1 x)++textL ((d+1)+1) (ifP 2 x)) w w'):=hid fun W hW=>(zCc x.area (by have:=(k6 hc).1;omega) (by have:=(k6 hc).1;omega) W (HE.out _ hW.k)).mono fun e w' ⟨he,hk⟩=>⟨he,hW.below hk⟩
    have Q1:Hid (∀W,XT 72 gx x.C g ((d+1)+1) (p++lineW (d+1) [x.name] [32,123]++textL ((d+1)+1) (ifP 0 x)++textL ((d+1)+1) (ifP 1 x)++textL ((d+1)+1) (ifP 2 x)) w W→Calls Tryz.prog 29 #[.int .i64 x.cost] W fun e w' => e=.returned (.string (str (decI x.cost)))∧XT 72 gx x.C g ((d+1)+1) (p++lineW (d+1) [x.name] [32,123]++textL ((d+1)+1) (ifP 0 x)++textL ((d+1)+1) (ifP 1 x)++textL ((d+1)+1) (ifP 2 x)) w w'):=hid fun W hW=>(zCc x.cost (by have:=(k6 hc).2;omega) (by have:=(k6 hc).2;omega) W (HE.out _ hW.k)).mono fun e w' ⟨he,hk⟩=>⟨he,hW.below hk⟩
    refine zCm (fun W=>XT 72 gx x.C g ((d+1)+1) (p++lineW (d+1) [x.name] [32,123]++textL ((d+1)+1) (ifP 0 x)++textL ((d+1)+1) (ifP 1 x)++textL ((d+1)+1) (ifP 2 x)) w W) [1,2,3,4,5,6] [7,8] (by kernel_rfl) rfl (by kernel_rfl) H.out.drew (fun _ _ _ h=>h) rfl (fun W=>by go_simp<;>rfl) ?_;simp only[opsAt,List.getElem?_toArray,List.getElem?_cons_zero,List.getElem?_cons_succ,Act.put,yB]
    repeat
     (first
      |(refine zBq (v:=?_) ?_ ?_ ?_;rotate_left;(· rfl);(· (intro W hW;obtain⟨c6,c7⟩:=HX.out W hW;go_simp<;>rfl)))
      |(refine zAm ?_ ?_ Q0.out ?_;(· rfl);(· (intro W hW;go_simp<;>rfl)))
      |(refine zAm ?_ ?_ Q1.out ?_;(· rfl);(· (intro W hW;go_simp<;>rfl))))
     simp only[Act.put]
    refine zCg ?_;intro wq hS;change wpList _ _ _ (_ :: _ :: []) _ _;have HS:=hid hS;clear hS HX Q0 Q1;go_wp2_with fail;refine(zBd HS.out [[108,105,110,107,45,115,116,97,116,101],[97,114,101,97],decI x.area,[99,111,115,116],decI x.cost] (by simp) (by rw[←E];have:=HM.out;simp only[yA]at this⊢;omega)).mono ?_;rintro e w2 ⟨rfl,h2,k2⟩;have H2:=hid h2;clear h2 k2;go_wp2;go_meet;rw[E];exact H2.out
   |false=>
    go_wp2;go_meet;rw[show textL ((d+1)+1) (ifP 3 x)=[]from zAl hc,yF];exact H.out
  case rest=>
  clear H c5;have H:=hid hcut;clear hcut;have c8:=cl8 H.out.x;go_upto_if 60 with fail
  go_cut [] (fun wx=>XT 72 gx x.C g ((d+1)+1) (p++lineW (d+1) [x.name] [32,123]++textL ((d+1)+1) (ifP 0 x)++textL ((d+1)+1) (ifP 1 x)++textL ((d+1)+1) (ifP 2 x)++textL ((d+1)+1) (ifP 3 x)++textL ((d+1)+1) (ifP 4 x)) w wx)
  case first=>
   cases hc:(x.dv)with
   |true=>
    have E:textL ((d+1)+1) (ifP 4 x)=lineW ((d+1)+1) [[100,105,115,116,97,110,99,101,45,118,101,99,116,111,114]] [59]:=zAq hc;go_wp2_with fail;refine(zBd H.out [[100,105,115,116,97,110,99,101,45,118,101,99,116,111,114]] (by simp) (by rw[←E];have:=HM.out;simp only[yA]at this⊢;omega)).mono ?_;rintro e w2 ⟨rfl,h2,k2⟩;have H2:=hid h2;clear h2 k2;go_wp2;go_meet;rw[E];exact H2.out
   |false=>
    go_wp2;go_meet;rw[show textL ((d+1)+1) (ifP 4 x)=[]from zAl hc,yF];exact H.out
  case rest=>
  clear H c8;have H:=hid hcut;clear hcut;have c9:wc.cell? ⟨gx,9,none⟩=some (.string (str x.inn)):=H.out.x.cell 9;go_wp2_with fail;refine(zFq H.out [105,110,112,117,116] (x.inn) (by rw[show nameN [105,110,112,117,116] (x.inn)=ifP 5 x from rfl];have:=HM.out;simp only[yA]at this⊢;omega)).mono ?_;rintro e w6 ⟨rfl,h2,k2⟩;rw[show nameN [105,110,112,117,116] (x.inn)=ifP 5 x from rfl]at h2;have H6:=hid h2;clear h2 k2;clear H c9;have c10:w6.cell? ⟨gx,10,none⟩=some (.string (str x.out)):=H6.out.x.cell 10;go_wp2_with fail;refine(zFq H6.out [111,117,116,112,117,116] (x.out) (by rw[show nameN [111,117,116,112,117,116] (x.out)=ifP 6 x from rfl];have:=HM.out;simp only[yA]at this⊢;omega)).mono ?_;rintro e w7 ⟨rfl,h2,k2⟩;rw[show nameN [111,117,116,112,117,116] (x.out)=ifP 6 x from rfl]at h2;have H7:=hid h2;clear h2 k2;clear H6 c10;have c11:w7.cell? ⟨gx,11,none⟩=some (.int .i64 x.side):=H7.out.x.cell 11;go_upto_block 2 with fail
  go_cut [] (fun wx=>XT 72 gx x.C g ((d+1)+1) (p++lineW (d+1) [x.name] [32,123]++textL ((d+1)+1) (ifP 0 x)++textL ((d+1)+1) (ifP 1 x)++textL ((d+1)+1) (ifP 2 x)++textL ((d+1)+1) (ifP 3 x)++textL ((d+1)+1) (ifP 4 x)++textL ((d+1)+1) (ifP 5 x)++textL ((d+1)+1) (ifP 6 x)++textL ((d+1)+1) (ifP 7 x)) w wx)
  case first=>
   by_cases e1:x.side=1
   ·have E:textL ((d+1)+1) (ifP 7 x)=lineW ((d+1)+1) [[115,105,100,101],[105,110,115,105,100,101]] [59]:=by rw[show ifP 7 x=sideN x.side from rfl,e1,show sideN 1=[stn [[115,105,100,101],[105,110,115,105,100,101]]]from rfl,zAz,zAn]
    have f1:(x.side==1)=true:=by rw[e1];rfl
    have f2:(x.side==2)=false:=by rw[e1];rfl
    clear e1;go_wp2_with fail;refine(zBd H7.out [[115,105,100,101],[105,110,115,105,100,101]] (by simp) (by rw[←E];have:=HM.out;simp only[yA]at this⊢;omega)).mono ?_;rintro e w2 ⟨rfl,h2,k2⟩;have H2:=hid h2;clear h2 k2;go_wp2;go_meet;rw[E];exact H2.out
   by_cases e2:x.side=2
   ·have E:textL ((d+1)+1) (ifP 7 x)=lineW ((d+1)+1) [[115,105,100,101],[111,117,116,115,105,100,101]] [59]:=by rw[show ifP 7 x=sideN x.side from rfl,e2,show sideN 2=[stn [[115,105,100,101],[111,117,116,115,105,100,101]]]from rfl,zAz,zAn]
    have f1:(x.side==1)=false:=by rw[e2];rfl
    have f2:(x.side==2)=true:=by rw[e2];rfl
    clear e2;go_wp2_with fail;refine(zBd H7.out [[115,105,100,101],[111,117,116,115,105,100,101]] (by simp) (by rw[←E];have:=HM.out;simp only[yA]at this⊢;omega)).mono ?_;rintro e w2 ⟨rfl,h2,k2⟩;have H2:=hid h2;clear h2 k2;go_wp2;go_meet;rw[E];exact H2.out
   have d1:(x.side==1)=false:=by simpa using e1
   have d2:(x.side==2)=false:=by simpa using e2
   have E:textL ((d+1)+1) (ifP 7 x)=[]:=by rw[show ifP 7 x=sideN x.side from rfl,sideN,d1,d2];rfl
   go_wp2;go_meet;rw[E,yF];exact H7.out
  case rest=>
  clear H7 c11;have H:=hid hcut;clear hcut;go_wp2_with fail;refine(zFp H.out (by have:=HM.out;simp only[yA]at this⊢;omega)).mono ?_;rintro e w8 ⟨rfl,h2,k2⟩;have H8:=hid h2;clear h2 k2;clear H;go_wp2;go_roundg (l.length - (k+1));case measure=>omega
  case rel=>
   refine⟨k+1,by omega,by go_num,hid ⟨?_,H8.out.k⟩⟩;have:=H8.out.t;rw[hp]at this;rw[ET.out,HN.out];simpa only[yE] using this
theorem fls_any(g d:Nat)(s:List UInt8)(r:Rt)(w:World)(B:Nat)(h:TX g d s w)(he:EnvA g w)(hB:B≤g)(hv0:SlV w B 3 AR.C r.rangesV r.ranges)(hv1:SlV w B 5 Rd.C r.lsRedV r.lsRed)(hx:r.lsOn=true→(1≤r.lsAdmin∧r.lsAdmin≤255)∧(∀x∈r.ranges,(0≤x.area∧x.area≤255)∧zAv x.pa x.pl=true∧x.fit)∧∀x∈r.lsRed,okRd x)(hl:(s++textL d (lsN r)).length≤140737488355328) :
  Calls Tryz.prog 35 #[.pointer (some ⟨g,0,none⟩),.agg #[.bool r.lsOn,.int .i64 r.lsAdmin,r.rangesV,r.lsRedV]] w (TP g d s (textL d (lsN r)) w):=by
 have HV0:=hid hv0;have hn0:r.ranges.length≤9223372036854775807:=by have:=hv0.len;unfold maxLen at this;omega
 obtain⟨A0,c0,hve0,-,-⟩:=hv0;have HV1:=hid hv1;have hn1:r.lsRed.length≤9223372036854775807:=by have:=hv1.len;unfold maxLen at this;omega
 obtain⟨A1,c1,hve1,-,-⟩:=hv1;rw[hve0,hve1];rw[hve0]at HV0;clear hve0;rw[hve1]at HV1;clear hve1;have hg:=hid h.lt;have HEA:Hid (∀W,FK g w W→EnvA g W):=hid fun W hk=>he.keep (hk.below (Nat.le_of_lt hg.out))
 have HE:Hid (∀W,FK g w W→Env W):=hid fun W hk=>(HEA.out W hk).1
 replace hB:=hid hB;cases ho:r.lsOn with
 |false=>
  have H:=hid (XT.new (T:=31) (cs:=#[.bool false,.int .i64 r.lsAdmin,.slice A0 r.ranges.length c0,.slice A1 r.lsRed.length c1]) h (FK.refl g w) (by decide));clear h he hx;go_enter Tryz.func35,Tryz.ntmps35;go_wp2_with fail;go_end0;exact⟨rfl,by rw[show textL d (lsN r)=[]from zAl ho,yF];exact H.out.t,H.out.k⟩
 |true=>
 have HX:=hid (hx ho);have EL:Hid (textL d (lsN r)=lineW d [[108,105,110,107,45,115,116,97,116,101]] [32,123]++(lineW (d+1) [[112,114,101,102,101,114,101,110,99,101],decI r.lsAdmin] [59]++(textL (d+1) (r.ranges.map (fun a=>stn [[114,97,110,103,101],decI a.area,pfxF a.pa a.pl]))++textL (d+1) (r.lsRed.map rdN)))++lineW d [] [125]):=hid (by rw[show lsN r=optN r.lsOn _ from rfl,zGt,ho,if_pos rfl,zBm];simp only[textL,zBt,zAn]);rw[EL.out]at hl;have HL:=hid hl;have H:=hid (XT.new (T:=31) (cs:=#[.bool true,.int .i64 r.lsAdmin,.slice A0 r.ranges.length c0,.slice A1 r.lsRed.length c1]) h (FK.refl g w) (by decide));clear hl h he hx ho;go_enter Tryz.func35,Tryz.ntmps35;go_upto_region 1 with fail
 generalize w.alloc (.cells #[.bool true,.int .i64 r.lsAdmin,.slice A0 r.ranges.length c0,.slice A1 r.lsRed.length c1] 31)=wc at H⊢;generalize w.heap.size=gy at H⊢;obtain⟨cl,hcl⟩:∃cl,cl=(#[.bool true,.int .i64 r.lsAdmin,.slice A0 r.ranges.length c0,.slice A1 r.lsRed.length c1]:Array Value):=⟨_,rfl⟩;rw[←hcl]at H;have C0:Hid (cl[0]? = some (.bool true)):=hid (by rw[hcl];rfl);have C1:Hid (cl[1]? = some (.int .i64 r.lsAdmin)):=hid (by rw[hcl];rfl);have C2:Hid (cl[2]? = some (.slice A0 r.ranges.length c0)):=hid (by rw[hcl];rfl);have C3:Hid (cl[3]? = some (.slice A1 r.lsRed.length c1)):=hid (by rw[hcl];rfl);clear hcl;obtain⟨k1,hr,hd⟩:=HX.out;replace hr:=hid hr;replace hd:=hid hd;clear HX;have c0:wc.cell? ⟨gy,0,none⟩=some (.bool true):=(H.out.x.cell 0).trans C0.out;go_wp2_with fail;refine(zEn H.out [[108,105,110,107,45,115,116,97,116,101]] (by simp) (by have:=HL.out;simp only[yA]at this⊢;omega)).mono ?_;rintro e w5 ⟨rfl,h2,k2⟩;have H5:=hid h2;clear h2 k2;clear H;clear c0;have c1:w5.cell? ⟨gy,1,none⟩=some (.int .i64 r.lsAdmin):=(H5.out.x.cell 1).trans C1.out;go_wp2_with fail;refine(zCc r.lsAdmin (by omega) (by omega) _ (HE.out _ H5.out.k)).mono ?_;rintro e w1 ⟨rfl,hb⟩;have H1:=hid (H5.out.below hb);clear hb;go_wp2_with fail;refine(zBd H1.out [[112,114,101,102,101,114,101,110,99,101],decI r.lsAdmin] (by simp) (by have:=HL.out;(try simp only[yA]at this⊢);omega)).mono ?_;rintro e w6 ⟨rfl,h2,k2⟩;have H6:=hid h2;clear h2 k2 H1;clear H5 c1;have c2:w6.cell? ⟨gy,2,none⟩=some (.slice A0 r.ranges.length c0):=(H6.out.x.cell 2).trans C2.out;go_upto_block 0 with fail
 go_cut [] (fun wx=>XT 31 gy cl g (d+1) (s++lineW d [[108,105,110,107,45,115,116,97,116,101]] [32,123]++lineW (d+1) [[112,114,101,102,101,114,101,110,99,101],decI r.lsAdmin] [59]++textL (d+1) (r.ranges.map (fun a=>stn [[114,97,110,103,101],decI a.area,pfxF a.pa a.pl]))) w wx)
 case first=>
  have hgy:=hid H6.out.hg;go_wp2;go_loopg [21] r.ranges.length (fun gh ix wr=>∃k:Nat,k+gh=r.ranges.length∧ix=.int .i64 k∧Hid ((TX g (d+1) (s++lineW d [[108,105,110,107,45,115,116,97,116,101]] [32,123]++lineW (d+1) [[112,114,101,102,101,114,101,110,99,101],decI r.lsAdmin] [59]++textL (d+1) ((r.ranges.take k).map (fun a=>stn [[114,97,110,103,101],decI a.area,pfxF a.pa a.pl]))) wr∧FK g w wr)∧HasC 31 gy cl wr));case atStart=>exact⟨0,by omega,rfl,hid ⟨⟨by rw[List.take_zero,List.map_nil,textL,yF];exact H6.out.t,H6.out.k⟩,H6.out.x⟩⟩
  case round=>
   obtain⟨k,hk,rfl,HR⟩:=hrel;by_cases hlt:k<r.ranges.length;case neg=>
    have hkz:¬((k:Int)<(r.ranges.length:Int)):=by omega
    have E:=zBc (d+1) (fun a=>stn [[114,97,110,103,101],decI a.area,pfxF a.pa a.pl]) hlt;go_wp2;go_meet;rw[←E];exact⟨HR.out.1.1,HR.out.2,HR.out.1.2,hgy.out,by decide⟩
   have hkz:(k:Int)<(r.ranges.length:Int):=by omega
   obtain⟨gr,o,c', e',-,hgr,R0⟩:=SlV.elem (n:=3) (by decide) (fun _=>rfl) HV0.out hlt;injection e' with e1 e2 e3
   subst e1 e3;have r1:=hid (zAg R0 ((HR.out.1.2.below (Nat.le_of_lt hg.out)).mono hB.out) hgr);clear R0 e2;have HX:=hid (hr.out _ (List.getElem_mem hlt));have ET:=hid (zAu (d+1) (fun a=>stn [[114,97,110,103,101],decI a.area,pfxF a.pa a.pl]) hlt);have HP:=hid (zAy (d+1) (fun a=>stn [[114,97,110,103,101],decI a.area,pfxF a.pa a.pl]) hlt);generalize r.ranges[k]=x at HX ET HP r1;go_upto_region 7 with(first|(refine zAa rfl 147 _ rfl rfl r1.out Tryz.rowAR Tryz.sizeAR ?_)|(refine zAd rfl 147 _ _ rfl rfl rfl (HasC.new wr _ _) rfl Tryz.sizeAR (AR.one x) ?_;intro w4 hz1 hz2))
   obtain⟨p,hp⟩:∃zz,zz=s++lineW d [[108,105,110,107,45,115,116,97,116,101]] [32,123]++lineW (d+1) [[112,114,101,102,101,114,101,110,99,101],decI r.lsAdmin] [59]++textL (d+1) ((r.ranges.take k).map (fun a=>stn [[114,97,110,103,101],decI a.area,pfxF a.pa a.pl])):=⟨_,rfl⟩;have hb:=zAi hz2;have H4:Hid (XT 147 wr.heap.size x.C g (d+1) p w w4∧HasC 31 gy cl w4):=hid ⟨⟨by rw[hp];exact HR.out.1.1.keep hb,hz1,HR.out.1.2.trans (.of_below hb),by have:=HR.out.1.1.lt;omega,by decide⟩,HR.out.2.keep hb⟩;have HN:Hid (textN (d+1) ((fun a=>stn [[114,97,110,103,101],decI a.area,pfxF a.pa a.pl]) x)=lineW (d+1) [[114,97,110,103,101],decI x.area,pfxF x.pa x.pl] [59]):=hid (zAn _ _);have HM:Hid (p.length+(lineW (d+1) [[114,97,110,103,101],decI x.area,pfxF x.pa x.pl] [59]).length≤140737488355328):=hid (by rw[←HN.out,hp,yA];have h1:=HL.out;have h2:=HP.out;simp only[yA]at h1⊢;omega);clear hz1 hz2 r1 HR hb HP;generalize wr.heap.size=gx at H4⊢;obtain⟨ha,hv,hf⟩:=HX.out;go_upto_region 7 with fail
   have HX:Hid (∀W,XT 147 gx x.C g (d+1) (p) w W∧HasC 31 gy cl W→W.cell? ⟨gx,0,none⟩=some (.int .i64 x.area)∧W.cell? ⟨gx,1,none⟩=some (.int .u32 (x.pa:Int))∧W.cell? ⟨gx,2,none⟩=some (.int .i64 x.pl)):=hid fun W hW=>⟨hW.1.x.cell 0,hW.1.x.cell 1,hW.1.x.cell 2⟩
   have Q0:Hid (∀W,XT 147 gx x.C g (d+1) (p) w W∧HasC 31 gy cl W→Calls Tryz.prog 29 #[.int .i64 x.area] W fun e w' => e=.returned (.string (str (decI x.area)))∧XT 147 gx x.C g (d+1) (p) w w' ∧ HasC 31 gy cl w'):=hid fun W hW=>(zCc x.area (by omega) (by omega) W (HE.out _ hW.1.k)).mono fun e w' ⟨he,hk⟩=>⟨he,⟨hW.1.below hk,hW.2.keep hk⟩⟩
   have Q1:Hid (∀W,XT 147 gx x.C g (d+1) (p) w W∧HasC 31 gy cl W→Calls Tryz.prog 108 #[.agg #[.int .u32 (x.pa:Int),.int .i64 x.pl]] W fun e w' => e=.returned (.string (str (pfxF x.pa x.pl)))∧XT 147 gx x.C g (d+1) (p) w w' ∧ HasC 31 gy cl w'):=hid fun W hW=>(zBo x.pa x.pl W hf (HE.out _ hW.1.k)).mono fun e w' ⟨he,hk⟩=>⟨he,⟨hW.1.below hk,hW.2.keep hk⟩⟩
   refine zCm (fun W=>XT 147 gx x.C g (d+1) (p) w W∧HasC 31 gy cl W) [1,2,3,4,5,6] [7,8] (by kernel_rfl) rfl (by kernel_rfl) ⟨H4.out.1.drew,H4.out.2.keep (zAo _)⟩ (fun _ _ _ h=>h) rfl (fun W=>by go_simp<;>rfl) ?_;simp only[opsAt,List.getElem?_toArray,List.getElem?_cons_zero,List.getElem?_cons_succ,Act.put,yB]
   repeat
    (first
     |(refine zBq (v:=?_) ?_ ?_ ?_;rotate_left;(· rfl);(· (intro W hW;obtain⟨c0,c1,c2⟩:=HX.out W hW;go_simp<;>rfl)))
     |(refine zAm ?_ ?_ Q0.out ?_;(· rfl);(· (intro W hW;go_simp<;>rfl)))
     |(refine zAm ?_ ?_ Q1.out ?_;(· rfl);(· (intro W hW;go_simp<;>rfl))))
    simp only[Act.put]
   refine zCg ?_;intro wq hS;change wpList _ _ _ (_ :: _ :: []) _ _;have HS:=hid hS;clear hS HX Q0 Q1;go_wp2_with fail;refine(zBd HS.out.1 [[114,97,110,103,101],decI x.area,pfxF x.pa x.pl] (by simp) (by have:=HM.out;(try simp only[yA]at this⊢);omega)).mono ?_;rintro e w5 ⟨rfl,h2,k2⟩;have H5:=hid (And.intro h2 (HS.out.2.fk k2 hgy.out (by decide)));clear h2 k2 HS;clear H4;go_wp2;go_roundg (r.ranges.length - (k+1));case measure=>omega
   case rel=>
    refine⟨k+1,by omega,by go_num,hid ⟨⟨?_,H5.out.1.k⟩,H5.out.2⟩⟩;have:=H5.out.1.t;rw[hp]at this;rw[ET.out,HN.out];simpa only[yE] using this
 case rest=>
 clear H6;have H:=hid hcut;clear hcut;have c3:wc.cell? ⟨gy,3,none⟩=some (.slice A1 r.lsRed.length c1):=(H.out.x.cell 3).trans C3.out;go_wp2_with fail;refine(zIm g (d+1) _ r.lsRed _ _ B H.out.t (HEA.out _ H.out.k) hB.out (HV1.out.below ((H.out.k.below (Nat.le_of_lt hg.out)).mono hB.out)) hd.out (by have:=HL.out;simp only[yA]at this⊢;omega)).mono ?_;rintro e w7 ⟨rfl,h2,k2⟩;have H7:=hid (H.out.go h2 k2);clear h2 k2;clear H c3;go_wp2_with fail;refine(zFp H7.out (by have:=HL.out;simp only[yA]at this⊢;omega)).mono ?_;rintro e w8 ⟨rfl,h2,k2⟩;have H8:=hid h2;clear h2 k2;clear H7;go_wp2_with fail;go_end0;refine⟨rfl,?_,H8.out.k⟩;rw[EL.out];simpa only[yE] using H8.out.t
theorem fdv_any(g d:Nat)(s:List UInt8)(r:Rt)(w:World)(B:Nat)(h:TX g d s w)(he:EnvA g w)(hB:B≤g)(hv0:SlV w B 5 Rd.C r.dvRedV r.dvRed)(hx:r.dvOn=true→(1≤r.dvAdmin∧r.dvAdmin≤255)∧∀x∈r.dvRed,okRd x)(hl:(s++textL d (dvN r)).length≤140737488355328) :
  Calls Tryz.prog 36 #[.pointer (some ⟨g,0,none⟩),.agg #[.bool r.dvOn,.int .i64 r.dvAdmin,strV r.dvIn,strV r.dvOut,r.dvRedV]] w (TP g d s (textL d (dvN r)) w):=by
 have HV0:=hid hv0;have hn0:r.dvRed.length≤9223372036854775807:=by have:=hv0.len;unfold maxLen at this;omega
 obtain⟨A0,c0,hve0,-,-⟩:=hv0;rw[hve0];rw[hve0]at HV0;clear hve0;have hg:=hid h.lt;have HEA:Hid (∀W,FK g w W→EnvA g W):=hid fun W hk=>he.keep (hk.below (Nat.le_of_lt hg.out))
 have HE:Hid (∀W,FK g w W→Env W):=hid fun W hk=>(HEA.out W hk).1
 replace hB:=hid hB;cases ho:r.dvOn with
 |false=>
  have H:=hid (XT.new (T:=33) (cs:=#[.bool false,.int .i64 r.dvAdmin,strV r.dvIn,strV r.dvOut,.slice A0 r.dvRed.length c0]) h (FK.refl g w) (by decide));clear h he hx;go_enter Tryz.func36,Tryz.ntmps36;go_wp2_with fail;go_end0;exact⟨rfl,by rw[show textL d (dvN r)=[]from zAl ho,yF];exact H.out.t,H.out.k⟩
 |true=>
 have HX:=hid (hx ho);have EL:Hid (textL d (dvN r)=lineW d [[100,105,115,116,97,110,99,101,45,118,101,99,116,111,114]] [32,123]++(lineW (d+1) [[112,114,101,102,101,114,101,110,99,101],decI r.dvAdmin] [59]++(textL (d+1) (nameN [105,110,112,117,116] r.dvIn)++(textL (d+1) (nameN [111,117,116,112,117,116] r.dvOut)++textL (d+1) (r.dvRed.map rdN))))++lineW d [] [125]):=hid (by rw[show dvN r=optN r.dvOn _ from rfl,zGt,ho,if_pos rfl,zBm];simp only[textL,zBt,zAn]);rw[EL.out]at hl;have HL:=hid hl;have H:=hid (XT.new (T:=33) (cs:=#[.bool true,.int .i64 r.dvAdmin,strV r.dvIn,strV r.dvOut,.slice A0 r.dvRed.length c0]) h (FK.refl g w) (by decide));clear hl h he hx ho;go_enter Tryz.func36,Tryz.ntmps36;go_upto_region 1 with fail
 generalize w.alloc (.cells #[.bool true,.int .i64 r.dvAdmin,strV r.dvIn,strV r.dvOut,.slice A0 r.dvRed.length c0] 33)=wc at H⊢;generalize w.heap.size=gy at H⊢;obtain⟨cl,hcl⟩:∃cl,cl=(#[.bool true,.int .i64 r.dvAdmin,strV r.dvIn,strV r.dvOut,.slice A0 r.dvRed.length c0]:Array Value):=⟨_,rfl⟩;rw[←hcl]at H;have C0:Hid (cl[0]? = some (.bool true)):=hid (by rw[hcl];rfl);have C1:Hid (cl[1]? = some (.int .i64 r.dvAdmin)):=hid (by rw[hcl];rfl);have C2:Hid (cl[2]? = some (strV r.dvIn)):=hid (by rw[hcl];rfl);have C3:Hid (cl[3]? = some (strV r.dvOut)):=hid (by rw[hcl];rfl);have C4:Hid (cl[4]? = some (.slice A0 r.dvRed.length c0)):=hid (by rw[hcl];rfl);clear hcl;obtain⟨k1,hd⟩:=HX.out;replace hd:=hid hd;clear HX;have c0:wc.cell? ⟨gy,0,none⟩=some (.bool true):=(H.out.x.cell 0).trans C0.out;go_wp2_with fail;refine(zEn H.out [[100,105,115,116,97,110,99,101,45,118,101,99,116,111,114]] (by simp) (by have:=HL.out;simp only[yA]at this⊢;omega)).mono ?_;rintro e w5 ⟨rfl,h2,k2⟩;have H5:=hid h2;clear h2 k2;clear H;clear c0;have c1:w5.cell? ⟨gy,1,none⟩=some (.int .i64 r.dvAdmin):=(H5.out.x.cell 1).trans C1.out;go_wp2_with fail;refine(zCc r.dvAdmin (by omega) (by omega) _ (HE.out _ H5.out.k)).mono ?_;rintro e w1 ⟨rfl,hb⟩;have H1:=hid (H5.out.below hb);clear hb;go_wp2_with fail;refine(zBd H1.out [[112,114,101,102,101,114,101,110,99,101],decI r.dvAdmin] (by simp) (by have:=HL.out;(try simp only[yA]at this⊢);omega)).mono ?_;rintro e w6 ⟨rfl,h2,k2⟩;have H6:=hid h2;clear h2 k2 H1;clear H5 c1;have c2:w6.cell? ⟨gy,2,none⟩=some (.string (str r.dvIn)):=(H6.out.x.cell 2).trans C2.out;go_wp2_with fail;refine(zFq H6.out [105,110,112,117,116] (r.dvIn) (by have:=HL.out;simp only[yA]at this⊢;omega)).mono ?_;rintro e w7 ⟨rfl,h2,k2⟩;have H7:=hid h2;clear h2 k2;clear H6 c2;have c3:w7.cell? ⟨gy,3,none⟩=some (.string (str r.dvOut)):=(H7.out.x.cell 3).trans C3.out;go_wp2_with fail;refine(zFq H7.out [111,117,116,112,117,116] (r.dvOut) (by have:=HL.out;simp only[yA]at this⊢;omega)).mono ?_;rintro e w8 ⟨rfl,h2,k2⟩;have H8:=hid h2;clear h2 k2;clear H7 c3;have c4:w8.cell? ⟨gy,4,none⟩=some (.slice A0 r.dvRed.length c0):=(H8.out.x.cell 4).trans C4.out;go_wp2_with fail;refine(zIm g (d+1) _ r.dvRed _ _ B H8.out.t (HEA.out _ H8.out.k) hB.out (HV0.out.below ((H8.out.k.below (Nat.le_of_lt hg.out)).mono hB.out)) hd.out (by have:=HL.out;simp only[yA]at this⊢;omega)).mono ?_;rintro e w9 ⟨rfl,h2,k2⟩;have H9:=hid (H8.out.go h2 k2);clear h2 k2;clear H8 c4;go_wp2_with fail;refine(zFp H9.out (by have:=HL.out;simp only[yA]at this⊢;omega)).mono ?_;rintro e w10 ⟨rfl,h2,k2⟩;have H10:=hid h2;clear h2 k2;clear H9;go_wp2_with fail;go_end0;refine⟨rfl,?_,H10.out.k⟩;rw[EL.out];simpa only[yE] using H10.out.t
theorem fpv_any(g d:Nat)(s:List UInt8)(r:Rt)(w:World)(B:Nat)(h:TX g d s w)(he:EnvA g w)(hB:B≤g)(hv0:SlV w B 4 Nb.C r.nbV r.nb)(hv1:SlV w B 2 Pf.C r.netV r.net)(hv2:SlV w B 3 Ag.C r.agV r.ag)(hv3:SlV w B 5 Cd.C r.cdV r.cd)(hv4:SlV w B 5 Rd.C r.pvRedV r.pvRed)(hx:r.pvOn=true→(1≤r.ext∧r.ext≤255)∧(1≤r.int∧r.int≤255)∧(∀x∈r.nb,(1≤x.asn∧x.asn≤65535)∧x.fit)∧(∀x∈r.net,zAv x.pa x.pl=true∧x.fit)∧(∀x∈r.ag,zAv x.pa x.pl=true∧x.fit)∧(∀x∈r.cd,zAv x.pa x.pl=true∧zAv x.ia x.il=true∧x.fit)∧∀x∈r.pvRed,okRd x)(hl:(s++textL d (pvN r)).length≤140737488355328) :
  Calls Tryz.prog 37 #[.pointer (some ⟨g,0,none⟩),.agg #[.bool r.pvOn,.int .i64 r.ext,.int .i64 r.int,r.nbV,r.netV,r.agV,r.cdV,r.pvRedV]] w (TP g d s (textL d (pvN r)) w):=by
 have HV0:=hid hv0;have hn0:r.nb.length≤9223372036854775807:=by have:=hv0.len;unfold maxLen at this;omega
 obtain⟨A0,c0,hve0,-,-⟩:=hv0;have HV1:=hid hv1;have hn1:r.net.length≤9223372036854775807:=by have:=hv1.len;unfold maxLen at this;omega
 obtain⟨A1,c1,hve1,-,-⟩:=hv1;have HV2:=hid hv2;have hn2:r.ag.length≤9223372036854775807:=by have:=hv2.len;unfold maxLen at this;omega
 obtain⟨A2,c2,hve2,-,-⟩:=hv2;have HV3:=hid hv3;have hn3:r.cd.length≤9223372036854775807:=by have:=hv3.len;unfold maxLen at this;omega
 obtain⟨A3,c3,hve3,-,-⟩:=hv3;have HV4:=hid hv4;have hn4:r.pvRed.length≤9223372036854775807:=by have:=hv4.len;unfold maxLen at this;omega
 obtain⟨A4,c4,hve4,-,-⟩:=hv4;rw[hve0,hve1,hve2,hve3,hve4];rw[hve0]at HV0;clear hve0;rw[hve1]at HV1;clear hve1;rw[hve2]at HV2;clear hve2;rw[hve3]at HV3;clear hve3;rw[hve4]at HV4;clear hve4;have hg:=hid h.lt;have HEA:Hid (∀W,FK g w W→EnvA g W):=hid fun W hk=>he.keep (hk.below (Nat.le_of_lt hg.out))
 have HE:Hid (∀W,FK g w W→Env W):=hid fun W hk=>(HEA.out W hk).1
 replace hB:=hid hB;cases ho:r.pvOn with
 |false=>
  have H:=hid (XT.new (T:=39) (cs:=#[.bool false,.int .i64 r.ext,.int .i64 r.int,.slice A0 r.nb.length c0,.slice A1 r.net.length c1,.slice A2 r.ag.length c2,.slice A3 r.cd.length c3,.slice A4 r.pvRed.length c4]) h (FK.refl g w) (by decide));clear h he hx;go_enter Tryz.func37,Tryz.ntmps37;go_wp2_with fail;go_end0;exact⟨rfl,by rw[show textL d (pvN r)=[]from zAl ho,yF];exact H.out.t,H.out.k⟩
 |true=>
 have HX:=hid (hx ho);have EL:Hid (textL d (pvN r)=lineW d [[112,97,116,104,45,118,101,99,116,111,114]] [32,123]++(lineW (d+1) [[112,114,101,102,101,114,101,110,99,101],[101,120,116,101,114,110,97,108],decI r.ext] [59]++(lineW (d+1) [[112,114,101,102,101,114,101,110,99,101],[105,110,116,101,114,110,97,108],decI r.int] [59]++(textL (d+1) (r.nb.map nbN)++(textL (d+1) (r.net.map (fun p=>stn [[110,101,116,119,111,114,107],pfxF p.pa p.pl]))++(textL (d+1) (r.ag.map agN)++(textL (d+1) (r.cd.map cdN)++textL (d+1) (r.pvRed.map rdN)))))))++lineW d [] [125]):=hid (by rw[show pvN r=optN r.pvOn _ from rfl,zGt,ho,if_pos rfl,zBm];simp only[textL,zBt,zAn]);rw[EL.out]at hl;have HL:=hid hl;have H:=hid (XT.new (T:=39) (cs:=#[.bool true,.int .i64 r.ext,.int .i64 r.int,.slice A0 r.nb.length c0,.slice A1 r.net.length c1,.slice A2 r.ag.length c2,.slice A3 r.cd.length c3,.slice A4 r.pvRed.length c4]) h (FK.refl g w) (by decide));clear hl h he hx ho;go_enter Tryz.func37,Tryz.ntmps37;go_upto_region 1 with fail
 generalize w.alloc (.cells #[.bool true,.int .i64 r.ext,.int .i64 r.int,.slice A0 r.nb.length c0,.slice A1 r.net.length c1,.slice A2 r.ag.length c2,.slice A3 r.cd.length c3,.slice A4 r.pvRed.length c4] 39)=wc at H⊢;generalize w.heap.size=gy at H⊢;obtain⟨cl,hcl⟩:∃cl,cl=(#[.bool true,.int .i64 r.ext,.int .i64 r.int,.slice A0 r.nb.length c0,.slice A1 r.net.length c1,.slice A2 r.ag.length c2,.slice A3 r.cd.length c3,.slice A4 r.pvRed.length c4]:Array Value):=⟨_,rfl⟩;rw[←hcl]at H;have C0:Hid (cl[0]? = some (.bool true)):=hid (by rw[hcl];rfl);have C1:Hid (cl[1]? = some (.int .i64 r.ext)):=hid (by rw[hcl];rfl);have C2:Hid (cl[2]? = some (.int .i64 r.int)):=hid (by rw[hcl];rfl);have C3:Hid (cl[3]? = some (.slice A0 r.nb.length c0)):=hid (by rw[hcl];rfl);have C4:Hid (cl[4]? = some (.slice A1 r.net.length c1)):=hid (by rw[hcl];rfl);have C5:Hid (cl[5]? = some (.slice A2 r.ag.length c2)):=hid (by rw[hcl];rfl);have C6:Hid (cl[6]? = some (.slice A3 r.cd.length c3)):=hid (by rw[hcl];rfl);have C7:Hid (cl[7]? = some (.slice A4 r.pvRed.length c4)):=hid (by rw[hcl];rfl);clear hcl;obtain⟨k1,k2,hn,ht,ha,hc,hd⟩:=HX.out;replace hn:=hid hn;replace ht:=hid ht;replace ha:=hid ha;replace hc:=hid hc;replace hd:=hid hd;clear HX;have c0:wc.cell? ⟨gy,0,none⟩=some (.bool true):=(H.out.x.cell 0).trans C0.out;go_wp2_with fail;refine(zEn H.out [[112,97,116,104,45,118,101,99,116,111,114]] (by simp) (by have:=HL.out;simp only[yA]at this⊢;omega)).mono ?_;rintro e w5 ⟨rfl,h2,k2⟩;have H5:=hid h2;clear h2 k2;clear H;clear c0;have c1:w5.cell? ⟨gy,1,none⟩=some (.int .i64 r.ext):=(H5.out.x.cell 1).trans C1.out;go_wp2_with fail;refine(zCc r.ext (by omega) (by omega) _ (HE.out _ H5.out.k)).mono ?_;rintro e w1 ⟨rfl,hb⟩;have H1:=hid (H5.out.below hb);clear hb;go_wp2_with fail;refine(zBd H1.out [[112,114,101,102,101,114,101,110,99,101],[101,120,116,101,114,110,97,108],decI r.ext] (by simp) (by have:=HL.out;(try simp only[yA]at this⊢);omega)).mono ?_;rintro e w6 ⟨rfl,h2,k2⟩;have H6:=hid h2;clear h2 k2 H1;clear H5 c1;have c2:w6.cell? ⟨gy,2,none⟩=some (.int .i64 r.int):=(H6.out.x.cell 2).trans C2.out;go_wp2_with fail;refine(zCc r.int (by omega) (by omega) _ (HE.out _ H6.out.k)).mono ?_;rintro e w1 ⟨rfl,hb⟩;have H1:=hid (H6.out.below hb);clear hb;go_wp2_with fail;refine(zBd H1.out [[112,114,101,102,101,114,101,110,99,101],[105,110,116,101,114,110,97,108],decI r.int] (by simp) (by have:=HL.out;(try simp only[yA]at this⊢);omega)).mono ?_;rintro e w7 ⟨rfl,h2,k2⟩;have H7:=hid h2;clear h2 k2 H1;clear H6 c2;have c3:w7.cell? ⟨gy,3,none⟩=some (.slice A0 r.nb.length c0):=(H7.out.x.cell 3).trans C3.out;go_upto_block 0 with fail
 go_cut [] (fun wx=>XT 39 gy cl g (d+1) (s++lineW d [[112,97,116,104,45,118,101,99,116,111,114]] [32,123]++lineW (d+1) [[112,114,101,102,101,114,101,110,99,101],[101,120,116,101,114,110,97,108],decI r.ext] [59]++lineW (d+1) [[112,114,101,102,101,114,101,110,99,101],[105,110,116,101,114,110,97,108],decI r.int] [59]++textL (d+1) (r.nb.map nbN)) w wx)
 case first=>
  have hgy:=hid H7.out.hg;go_wp2;go_loopg [34] r.nb.length (fun gh ix wr=>∃k:Nat,k+gh=r.nb.length∧ix=.int .i64 k∧Hid ((TX g (d+1) (s++lineW d [[112,97,116,104,45,118,101,99,116,111,114]] [32,123]++lineW (d+1) [[112,114,101,102,101,114,101,110,99,101],[101,120,116,101,114,110,97,108],decI r.ext] [59]++lineW (d+1) [[112,114,101,102,101,114,101,110,99,101],[105,110,116,101,114,110,97,108],decI r.int] [59]++textL (d+1) ((r.nb.take k).map nbN)) wr∧FK g w wr)∧HasC 39 gy cl wr));case atStart=>exact⟨0,by omega,rfl,hid ⟨⟨by rw[List.take_zero,List.map_nil,textL,yF];exact H7.out.t,H7.out.k⟩,H7.out.x⟩⟩
  case round=>
   obtain⟨k,hk,rfl,HR⟩:=hrel;by_cases hlt:k<r.nb.length;case neg=>
    have hkz:¬((k:Int)<(r.nb.length:Int)):=by omega
    have E:=zBc (d+1) nbN hlt;go_wp2;go_meet;rw[←E];exact⟨HR.out.1.1,HR.out.2,HR.out.1.2,hgy.out,by decide⟩
   have hkz:(k:Int)<(r.nb.length:Int):=by omega
   obtain⟨gr,o,c', e',-,hgr,R0⟩:=SlV.elem (n:=4) (by decide) (fun _=>rfl) HV0.out hlt;injection e' with e1 e2 e3
   subst e1 e3;have r1:=hid (zAg R0 ((HR.out.1.2.below (Nat.le_of_lt hg.out)).mono hB.out) hgr);clear R0 e2;have HX:=hid (hn.out _ (List.getElem_mem hlt));have ET:=hid (zAu (d+1) nbN hlt);have HP:=hid (zAy (d+1) nbN hlt);generalize r.nb[k]=x at HX ET HP r1;go_upto_region 8 with(first|(refine zAa rfl 149 _ rfl rfl r1.out Tryz.rowNb Tryz.sizeNb ?_)|(refine zAd rfl 149 _ _ rfl rfl rfl (HasC.new wr _ _) rfl Tryz.sizeNb (Nb.one x) ?_;intro w4 hz1 hz2))
   obtain⟨p,hp⟩:∃zz,zz=s++lineW d [[112,97,116,104,45,118,101,99,116,111,114]] [32,123]++lineW (d+1) [[112,114,101,102,101,114,101,110,99,101],[101,120,116,101,114,110,97,108],decI r.ext] [59]++lineW (d+1) [[112,114,101,102,101,114,101,110,99,101],[105,110,116,101,114,110,97,108],decI r.int] [59]++textL (d+1) ((r.nb.take k).map nbN):=⟨_,rfl⟩;have hb:=zAi hz2;have H4:Hid (XT 149 wr.heap.size x.C g (d+1) p w w4∧HasC 39 gy cl w4):=hid ⟨⟨by rw[hp];exact HR.out.1.1.keep hb,hz1,HR.out.1.2.trans (.of_below hb),by have:=HR.out.1.1.lt;omega,by decide⟩,HR.out.2.keep hb⟩;have HN:Hid (textN (d+1) (nbN x)=lineW (d+1) [[110,101,105,103,104,98,111,114],fmtA x.addr] [32,123]++(textL ((d+1)+1) (nbP 0 x)++(textL ((d+1)+1) (nbP 1 x)++(textL ((d+1)+1) (nbP 2 x))))++lineW (d+1) [] [125]):=hid (by rw[nbN,zBm,nbK];simp only[zBt]);have HM:Hid (p.length+(lineW (d+1) [[110,101,105,103,104,98,111,114],fmtA x.addr] [32,123]++(textL ((d+1)+1) (nbP 0 x)++(textL ((d+1)+1) (nbP 1 x)++(textL ((d+1)+1) (nbP 2 x))))++lineW (d+1) [] [125]).length≤140737488355328):=hid (by rw[←HN.out,hp,yA];have h1:=HL.out;have h2:=HP.out;simp only[yA]at h1⊢;omega);clear hz1 hz2 r1 HR hb HP;generalize wr.heap.size=gx at H4⊢;obtain⟨k3,hf⟩:=HX.out;have c0:=cl0 H4.out.1.x;go_wp2_with fail;refine(zDa x.addr _ hf (HE.out _ H4.out.1.k)).mono ?_;rintro e w1 ⟨rfl,hb⟩;have H1:=hid (And.intro (H4.out.1.below hb) (H4.out.2.keep hb));clear hb;go_wp2_with fail;refine(zEn H1.out.1 [[110,101,105,103,104,98,111,114],fmtA x.addr] (by simp) (by have:=HM.out;simp only[yA]at this⊢;omega)).mono ?_;rintro e w5 ⟨rfl,h2,k2⟩;have H5:=hid (And.intro h2 (H1.out.2.fk k2 hgy.out (by decide)));clear h2 k2 H1;clear H4 c0;have c1:=cl1 H5.out.1.x;have E6:textL ((d+1)+1) (nbP 0 x)=lineW ((d+1)+1) [[97,115],decI x.asn] [59]:=by rw[show nbP 0 x=[stn [[97,115],decI x.asn]]from rfl,zAz,zAn]
   go_wp2_with fail;refine(zCc x.asn (by omega) (by omega) _ (HE.out _ H5.out.1.k)).mono ?_;rintro e w1 ⟨rfl,hb⟩;have H1:=hid (And.intro (H5.out.1.below hb) (H5.out.2.keep hb));clear hb;go_wp2_with fail;refine(zBd H1.out.1 [[97,115],decI x.asn] (by simp) (by rw[←E6];have:=HM.out;simp only[yA]at this⊢;omega)).mono ?_;rintro e w6 ⟨rfl,h2,k2⟩;rw[←E6]at h2;have H6:=hid (And.intro h2 (H1.out.2.fk k2 hgy.out (by decide)));clear h2 k2 E6 H1;clear H5 c1;have c2:w6.cell? ⟨gx,2,none⟩=some (.string (str x.inn)):=H6.out.1.x.cell 2;go_wp2_with fail;refine(zFq H6.out.1 [105,109,112,111,114,116] (x.inn) (by rw[show nameN [105,109,112,111,114,116] (x.inn)=nbP 1 x from rfl];have:=HM.out;simp only[yA]at this⊢;omega)).mono ?_;rintro e w7 ⟨rfl,h2,k2⟩;rw[show nameN [105,109,112,111,114,116] (x.inn)=nbP 1 x from rfl]at h2;have H7:=hid (And.intro h2 (H6.out.2.fk k2 hgy.out (by decide)));clear h2 k2;clear H6 c2;have c3:w7.cell? ⟨gx,3,none⟩=some (.string (str x.out)):=H7.out.1.x.cell 3;go_wp2_with fail;refine(zFq H7.out.1 [101,120,112,111,114,116] (x.out) (by rw[show nameN [101,120,112,111,114,116] (x.out)=nbP 2 x from rfl];have:=HM.out;simp only[yA]at this⊢;omega)).mono ?_;rintro e w8 ⟨rfl,h2,k2⟩;rw[show nameN [101,120,112,111,114,116] (x.out)=nbP 2 x from rfl]at h2;have H8:=hid (And.intro h2 (H7.out.2.fk k2 hgy.out (by decide)));clear h2 k2;clear H7 c3;go_wp2_with fail;refine(zFp H8.out.1 (by have:=HM.out;simp only[yA]at this⊢;omega)).mono ?_;rintro e w9 ⟨rfl,h2,k2⟩;have H9:=hid (And.intro h2 (H8.out.2.fk k2 hgy.out (by decide)));clear h2 k2;clear H8;go_wp2;go_roundg (r.nb.length - (k+1));case measure=>omega
   case rel=>
    refine⟨k+1,by omega,by go_num,hid ⟨⟨?_,H9.out.1.k⟩,H9.out.2⟩⟩;have:=H9.out.1.t;rw[hp]at this;rw[ET.out,HN.out];simpa only[yE] using this
 case rest=>
 clear H7;have H:=hid hcut;clear hcut;clear c3;have c4:wc.cell? ⟨gy,4,none⟩=some (.slice A1 r.net.length c1):=(H.out.x.cell 4).trans C4.out;go_upto_block 2 with fail
 go_cut [] (fun wx=>XT 39 gy cl g (d+1) (s++lineW d [[112,97,116,104,45,118,101,99,116,111,114]] [32,123]++lineW (d+1) [[112,114,101,102,101,114,101,110,99,101],[101,120,116,101,114,110,97,108],decI r.ext] [59]++lineW (d+1) [[112,114,101,102,101,114,101,110,99,101],[105,110,116,101,114,110,97,108],decI r.int] [59]++textL (d+1) (r.nb.map nbN)++textL (d+1) (r.net.map (fun p=>stn [[110,101,116,119,111,114,107],pfxF p.pa p.pl]))) w wx)
 case first=>
  have hgy:=hid H.out.hg;go_wp2;go_loopg [64] r.net.length (fun gh ix wr=>∃k:Nat,k+gh=r.net.length∧ix=.int .i64 k∧Hid ((TX g (d+1) (s++lineW d [[112,97,116,104,45,118,101,99,116,111,114]] [32,123]++lineW (d+1) [[112,114,101,102,101,114,101,110,99,101],[101,120,116,101,114,110,97,108],decI r.ext] [59]++lineW (d+1) [[112,114,101,102,101,114,101,110,99,101],[105,110,116,101,114,110,97,108],decI r.int] [59]++textL (d+1) (r.nb.map nbN)++textL (d+1) ((r.net.take k).map (fun p=>stn [[110,101,116,119,111,114,107],pfxF p.pa p.pl]))) wr∧FK g w wr)∧HasC 39 gy cl wr));case atStart=>exact⟨0,by omega,rfl,hid ⟨⟨by rw[List.take_zero,List.map_nil,textL,yF];exact H.out.t,H.out.k⟩,H.out.x⟩⟩
  case round=>
   obtain⟨k,hk,rfl,HR⟩:=hrel;by_cases hlt:k<r.net.length;case neg=>
    have hkz:¬((k:Int)<(r.net.length:Int)):=by omega
    have E:=zBc (d+1) (fun p=>stn [[110,101,116,119,111,114,107],pfxF p.pa p.pl]) hlt;go_wp2;go_meet;rw[←E];exact⟨HR.out.1.1,HR.out.2,HR.out.1.2,hgy.out,by decide⟩
   have hkz:(k:Int)<(r.net.length:Int):=by omega
   obtain⟨gr,o,c', e',-,hgr,R0⟩:=SlV.elem (n:=2) (by decide) (fun _=>rfl) HV1.out hlt;injection e' with e1 e2 e3
   subst e1 e3;have r1:=hid (zAg R0 ((HR.out.1.2.below (Nat.le_of_lt hg.out)).mono hB.out) hgr);clear R0 e2;have HX:=hid (ht.out _ (List.getElem_mem hlt));have ET:=hid (zAu (d+1) (fun p=>stn [[110,101,116,119,111,114,107],pfxF p.pa p.pl]) hlt);have HP:=hid (zAy (d+1) (fun p=>stn [[110,101,116,119,111,114,107],pfxF p.pa p.pl]) hlt);generalize r.net[k]=x at HX ET HP r1;go_upto_region 17 with(first|(refine zAa rfl 76 _ rfl rfl r1.out Tryz.rowPf Tryz.sizePf ?_)|(refine zAd rfl 76 _ _ rfl rfl rfl (HasC.new wr _ _) rfl Tryz.sizePf (Pf.one x) ?_;intro w4 hz1 hz2))
   obtain⟨p,hp⟩:∃zz,zz=s++lineW d [[112,97,116,104,45,118,101,99,116,111,114]] [32,123]++lineW (d+1) [[112,114,101,102,101,114,101,110,99,101],[101,120,116,101,114,110,97,108],decI r.ext] [59]++lineW (d+1) [[112,114,101,102,101,114,101,110,99,101],[105,110,116,101,114,110,97,108],decI r.int] [59]++textL (d+1) (r.nb.map nbN)++textL (d+1) ((r.net.take k).map (fun p=>stn [[110,101,116,119,111,114,107],pfxF p.pa p.pl])):=⟨_,rfl⟩;have hb:=zAi hz2;have H4:Hid (XT 76 wr.heap.size x.C g (d+1) p w w4∧HasC 39 gy cl w4):=hid ⟨⟨by rw[hp];exact HR.out.1.1.keep hb,hz1,HR.out.1.2.trans (.of_below hb),by have:=HR.out.1.1.lt;omega,by decide⟩,HR.out.2.keep hb⟩;have HN:Hid (textN (d+1) ((fun p=>stn [[110,101,116,119,111,114,107],pfxF p.pa p.pl]) x)=lineW (d+1) [[110,101,116,119,111,114,107],pfxF x.pa x.pl] [59]):=hid (zAn _ _);have HM:Hid (p.length+(lineW (d+1) [[110,101,116,119,111,114,107],pfxF x.pa x.pl] [59]).length≤140737488355328):=hid (by rw[←HN.out,hp,yA];have h1:=HL.out;have h2:=HP.out;simp only[yA]at h1⊢;omega);clear hz1 hz2 r1 HR hb HP;generalize wr.heap.size=gx at H4⊢;obtain⟨hv,hf⟩:=HX.out;obtain⟨c0,c1⟩:=bl2 H4.out.1.x;go_wp2_with fail;refine(zBo x.pa x.pl _ hf (HE.out _ H4.out.1.k)).mono ?_;rintro e w1 ⟨rfl,hb⟩;have H1:=hid (And.intro (H4.out.1.below hb) (H4.out.2.keep hb));clear hb;go_wp2_with fail;refine(zBd H1.out.1 [[110,101,116,119,111,114,107],pfxF x.pa x.pl] (by simp) (by have:=HM.out;(try simp only[yA]at this⊢);omega)).mono ?_;rintro e w5 ⟨rfl,h2,k2⟩;have H5:=hid (And.intro h2 (H1.out.2.fk k2 hgy.out (by decide)));clear h2 k2 H1;clear H4 c0 c1;go_wp2;go_roundg (r.net.length - (k+1));case measure=>omega
   case rel=>
    refine⟨k+1,by omega,by go_num,hid ⟨⟨?_,H5.out.1.k⟩,H5.out.2⟩⟩;have:=H5.out.1.t;rw[hp]at this;rw[ET.out,HN.out];simpa only[yE] using this
 case rest=>
 clear H;have H:=hid hcut;clear hcut;clear c4;have c5:wc.cell? ⟨gy,5,none⟩=some (.slice A2 r.ag.length c2):=(H.out.x.cell 5).trans C5.out;go_upto_block 4 with fail
 go_cut [] (fun wx=>XT 39 gy cl g (d+1) (s++lineW d [[112,97,116,104,45,118,101,99,116,111,114]] [32,123]++lineW (d+1) [[112,114,101,102,101,114,101,110,99,101],[101,120,116,101,114,110,97,108],decI r.ext] [59]++lineW (d+1) [[112,114,101,102,101,114,101,110,99,101],[105,110,116,101,114,110,97,108],decI r.int] [59]++textL (d+1) (r.nb.map nbN)++textL (d+1) (r.net.map (fun p=>stn [[110,101,116,119,111,114,107],pfxF p.pa p.pl]))++textL (d+1) (r.ag.map agN)) w wx)
 case first=>
  have hgy:=hid H.out.hg;go_wp2;go_loopg [77] r.ag.length (fun gh ix wr=>∃k:Nat,k+gh=r.ag.length∧ix=.int .i64 k∧Hid ((TX g (d+1) (s++lineW d [[112,97,116,104,45,118,101,99,116,111,114]] [32,123]++lineW (d+1) [[112,114,101,102,101,114,101,110,99,101],[101,120,116,101,114,110,97,108],decI r.ext] [59]++lineW (d+1) [[112,114,101,102,101,114,101,110,99,101],[105,110,116,101,114,110,97,108],decI r.int] [59]++textL (d+1) (r.nb.map nbN)++textL (d+1) (r.net.map (fun p=>stn [[110,101,116,119,111,114,107],pfxF p.pa p.pl]))++textL (d+1) ((r.ag.take k).map agN)) wr∧FK g w wr)∧HasC 39 gy cl wr));case atStart=>exact⟨0,by omega,rfl,hid ⟨⟨by rw[List.take_zero,List.map_nil,textL,yF];exact H.out.t,H.out.k⟩,H.out.x⟩⟩
  case round=>
   obtain⟨k,hk,rfl,HR⟩:=hrel;by_cases hlt:k<r.ag.length;case neg=>
    have hkz:¬((k:Int)<(r.ag.length:Int)):=by omega
    have E:=zBc (d+1) agN hlt;go_wp2;go_meet;rw[←E];exact⟨HR.out.1.1,HR.out.2,HR.out.1.2,hgy.out,by decide⟩
   have hkz:(k:Int)<(r.ag.length:Int):=by omega
   obtain⟨gr,o,c', e',-,hgr,R0⟩:=SlV.elem (n:=3) (by decide) (fun _=>rfl) HV2.out hlt;injection e' with e1 e2 e3
   subst e1 e3;have r1:=hid (zAg R0 ((HR.out.1.2.below (Nat.le_of_lt hg.out)).mono hB.out) hgr);clear R0 e2;have HX:=hid (ha.out _ (List.getElem_mem hlt));have ET:=hid (zAu (d+1) agN hlt);have HP:=hid (zAy (d+1) agN hlt);generalize r.ag[k]=x at HX ET HP r1;go_upto_region 22 with(first|(refine zAa rfl 151 _ rfl rfl r1.out Tryz.rowAg Tryz.sizeAg ?_)|(refine zAd rfl 151 _ _ rfl rfl rfl (HasC.new wr _ _) rfl Tryz.sizeAg (Ag.one x) ?_;intro w4 hz1 hz2))
   obtain⟨p,hp⟩:∃zz,zz=s++lineW d [[112,97,116,104,45,118,101,99,116,111,114]] [32,123]++lineW (d+1) [[112,114,101,102,101,114,101,110,99,101],[101,120,116,101,114,110,97,108],decI r.ext] [59]++lineW (d+1) [[112,114,101,102,101,114,101,110,99,101],[105,110,116,101,114,110,97,108],decI r.int] [59]++textL (d+1) (r.nb.map nbN)++textL (d+1) (r.net.map (fun p=>stn [[110,101,116,119,111,114,107],pfxF p.pa p.pl]))++textL (d+1) ((r.ag.take k).map agN):=⟨_,rfl⟩;have hb:=zAi hz2;have H4:Hid (XT 151 wr.heap.size x.C g (d+1) p w w4∧HasC 39 gy cl w4):=hid ⟨⟨by rw[hp];exact HR.out.1.1.keep hb,hz1,HR.out.1.2.trans (.of_below hb),by have:=HR.out.1.1.lt;omega,by decide⟩,HR.out.2.keep hb⟩;have HM:Hid (p.length+(textN (d+1) (agN x)).length≤140737488355328):=hid (by rw[hp,yA];have h1:=HL.out;have h2:_+(textN (d+1) (agN x)).length≤_:=HP.out;simp only[yA]at h1⊢;omega);clear hz1 hz2 r1 HR hb HP;generalize wr.heap.size=gx at H4⊢;obtain⟨hv,hf⟩:=HX.out;obtain⟨c0,c1,c2⟩:=bl3 H4.out.1.x;cases ho:x.only with
   |true=>
    have E:textN (d+1) (agN x)=lineW (d+1) [[97,103,103,114,101,103,97,116,101],pfxF x.pa x.pl,[111,110,108,121]] [59]:=by rw[agN,ho,zAn];rfl
    rw[ho]at c2;go_wp2_with fail;refine(zBo x.pa x.pl _ hf (HE.out _ H4.out.1.k)).mono ?_;rintro e w1 ⟨rfl,hb⟩;have H1:=hid (And.intro (H4.out.1.below hb) (H4.out.2.keep hb));clear hb;go_wp2_with fail;refine(zBd H1.out.1 [[97,103,103,114,101,103,97,116,101],pfxF x.pa x.pl,[111,110,108,121]] (by simp) (by rw[←E];exact HM.out)).mono ?_;rintro e w2 ⟨rfl,h2,k2⟩;rw[←E]at h2;have H2:=hid (And.intro h2 (H1.out.2.fk k2 hgy.out (by decide)));clear h2 k2;go_wp2;go_roundg (r.ag.length - (k+1));case measure=>omega
    case rel=>
     refine⟨k+1,by omega,by go_num,hid ⟨⟨?_,H2.out.1.k⟩,H2.out.2⟩⟩;have:=H2.out.1.t;rw[hp]at this;rw[ET.out];simpa only[yE] using this
   |false=>
    have E:textN (d+1) (agN x)=lineW (d+1) [[97,103,103,114,101,103,97,116,101],pfxF x.pa x.pl] [59]:=by rw[agN,ho,zAn];rfl
    rw[ho]at c2;go_wp2_with fail;refine(zBo x.pa x.pl _ hf (HE.out _ H4.out.1.k)).mono ?_;rintro e w1 ⟨rfl,hb⟩;have H1:=hid (And.intro (H4.out.1.below hb) (H4.out.2.keep hb));clear hb;go_wp2_with fail;refine(zBd H1.out.1 [[97,103,103,114,101,103,97,116,101],pfxF x.pa x.pl] (by simp) (by rw[←E];exact HM.out)).mono ?_;rintro e w2 ⟨rfl,h2,k2⟩;rw[←E]at h2;have H2:=hid (And.intro h2 (H1.out.2.fk k2 hgy.out (by decide)));clear h2 k2;go_wp2;go_roundg (r.ag.length - (k+1));case measure=>omega
    case rel=>
     refine⟨k+1,by omega,by go_num,hid ⟨⟨?_,H2.out.1.k⟩,H2.out.2⟩⟩;have:=H2.out.1.t;rw[hp]at this;rw[ET.out];simpa only[yE] using this
 case rest=>
 clear H;have H:=hid hcut;clear hcut;clear c5;have c6:wc.cell? ⟨gy,6,none⟩=some (.slice A3 r.cd.length c3):=(H.out.x.cell 6).trans C6.out;go_upto_block 6 with fail
 go_cut [] (fun wx=>XT 39 gy cl g (d+1) (s++lineW d [[112,97,116,104,45,118,101,99,116,111,114]] [32,123]++lineW (d+1) [[112,114,101,102,101,114,101,110,99,101],[101,120,116,101,114,110,97,108],decI r.ext] [59]++lineW (d+1) [[112,114,101,102,101,114,101,110,99,101],[105,110,116,101,114,110,97,108],decI r.int] [59]++textL (d+1) (r.nb.map nbN)++textL (d+1) (r.net.map (fun p=>stn [[110,101,116,119,111,114,107],pfxF p.pa p.pl]))++textL (d+1) (r.ag.map agN)++textL (d+1) (r.cd.map cdN)) w wx)
 case first=>
  have hgy:=hid H.out.hg;go_wp2;go_loopg [99] r.cd.length (fun gh ix wr=>∃k:Nat,k+gh=r.cd.length∧ix=.int .i64 k∧Hid ((TX g (d+1) (s++lineW d [[112,97,116,104,45,118,101,99,116,111,114]] [32,123]++lineW (d+1) [[112,114,101,102,101,114,101,110,99,101],[101,120,116,101,114,110,97,108],decI r.ext] [59]++lineW (d+1) [[112,114,101,102,101,114,101,110,99,101],[105,110,116,101,114,110,97,108],decI r.int] [59]++textL (d+1) (r.nb.map nbN)++textL (d+1) (r.net.map (fun p=>stn [[110,101,116,119,111,114,107],pfxF p.pa p.pl]))++textL (d+1) (r.ag.map agN)++textL (d+1) ((r.cd.take k).map cdN)) wr∧FK g w wr)∧HasC 39 gy cl wr));case atStart=>exact⟨0,by omega,rfl,hid ⟨⟨by rw[List.take_zero,List.map_nil,textL,yF];exact H.out.t,H.out.k⟩,H.out.x⟩⟩
  case round=>
   obtain⟨k,hk,rfl,HR⟩:=hrel;by_cases hlt:k<r.cd.length;case neg=>
    have hkz:¬((k:Int)<(r.cd.length:Int)):=by omega
    have E:=zBc (d+1) cdN hlt;go_wp2;go_meet;rw[←E];exact⟨HR.out.1.1,HR.out.2,HR.out.1.2,hgy.out,by decide⟩
   have hkz:(k:Int)<(r.cd.length:Int):=by omega
   obtain⟨gr,o,c', e',-,hgr,R0⟩:=SlV.elem (n:=5) (by decide) (fun _=>rfl) HV3.out hlt;injection e' with e1 e2 e3
   subst e1 e3;have r1:=hid (zAg R0 ((HR.out.1.2.below (Nat.le_of_lt hg.out)).mono hB.out) hgr);clear R0 e2;have HX:=hid (hc.out _ (List.getElem_mem hlt));have ET:=hid (zAu (d+1) cdN hlt);have HP:=hid (zAy (d+1) cdN hlt);generalize r.cd[k]=x at HX ET HP r1;go_upto_region 29 with(first|(refine zAa rfl 153 _ rfl rfl r1.out Tryz.rowCd Tryz.sizeCd ?_)|(refine zAd rfl 153 _ _ rfl rfl rfl (HasC.new wr _ _) rfl Tryz.sizeCd (Cd.one x) ?_;intro w4 hz1 hz2))
   obtain⟨p,hp⟩:∃zz,zz=s++lineW d [[112,97,116,104,45,118,101,99,116,111,114]] [32,123]++lineW (d+1) [[112,114,101,102,101,114,101,110,99,101],[101,120,116,101,114,110,97,108],decI r.ext] [59]++lineW (d+1) [[112,114,101,102,101,114,101,110,99,101],[105,110,116,101,114,110,97,108],decI r.int] [59]++textL (d+1) (r.nb.map nbN)++textL (d+1) (r.net.map (fun p=>stn [[110,101,116,119,111,114,107],pfxF p.pa p.pl]))++textL (d+1) (r.ag.map agN)++textL (d+1) ((r.cd.take k).map cdN):=⟨_,rfl⟩;have hb:=zAi hz2;have H4:Hid (XT 153 wr.heap.size x.C g (d+1) p w w4∧HasC 39 gy cl w4):=hid ⟨⟨by rw[hp];exact HR.out.1.1.keep hb,hz1,HR.out.1.2.trans (.of_below hb),by have:=HR.out.1.1.lt;omega,by decide⟩,HR.out.2.keep hb⟩;have HM:Hid (p.length+(textN (d+1) (cdN x)).length≤140737488355328):=hid (by rw[hp,yA];have h1:=HL.out;have h2:_+(textN (d+1) (cdN x)).length≤_:=HP.out;simp only[yA]at h1⊢;omega);clear hz1 hz2 r1 HR hb HP;generalize wr.heap.size=gx at H4⊢;obtain⟨hv,hu,hf,hf2⟩:=HX.out;have c4:=cl4 H4.out.1.x;cases ho:x.absent
   case' true=>have E:textN (d+1) (cdN x)=lineW (d+1) [[111,114,105,103,105,110,97,116,101],pfxF x.pa x.pl,[117,110,108,101,115,115],pfxF x.ia x.il] [59]:=by rw[cdN,ho,zAn];rfl
   case' false=>have E:textN (d+1) (cdN x)=lineW (d+1) [[111,114,105,103,105,110,97,116,101],pfxF x.pa x.pl,[105,102],pfxF x.ia x.il] [59]:=by rw[cdN,ho,zAn];rfl
   all_goals
    rw[ho]at c4;go_upto_region 32 with fail
    have HX:Hid (∀W,XT 153 gx x.C g (d+1) (p) w W∧HasC 39 gy cl W→W.cell? ⟨gx,0,none⟩=some (.int .u32 (x.pa:Int))∧W.cell? ⟨gx,1,none⟩=some (.int .i64 x.pl)∧W.cell? ⟨gx,2,none⟩=some (.int .u32 (x.ia:Int))∧W.cell? ⟨gx,3,none⟩=some (.int .i64 x.il)):=hid fun W hW=>⟨hW.1.x.cell 0,hW.1.x.cell 1,hW.1.x.cell 2,hW.1.x.cell 3⟩
    have Q0:Hid (∀W,XT 153 gx x.C g (d+1) (p) w W∧HasC 39 gy cl W→Calls Tryz.prog 108 #[.agg #[.int .u32 (x.pa:Int),.int .i64 x.pl]] W fun e w' => e=.returned (.string (str (pfxF x.pa x.pl)))∧XT 153 gx x.C g (d+1) (p) w w' ∧ HasC 39 gy cl w'):=hid fun W hW=>(zBo x.pa x.pl W hf (HE.out _ hW.1.k)).mono fun e w' ⟨he,hk⟩=>⟨he,⟨hW.1.below hk,hW.2.keep hk⟩⟩
    have Q1:Hid (∀W,XT 153 gx x.C g (d+1) (p) w W∧HasC 39 gy cl W→Calls Tryz.prog 108 #[.agg #[.int .u32 (x.ia:Int),.int .i64 x.il]] W fun e w' => e=.returned (.string (str (pfxF x.ia x.il)))∧XT 153 gx x.C g (d+1) (p) w w' ∧ HasC 39 gy cl w'):=hid fun W hW=>(zBo x.ia x.il W hf2 (HE.out _ hW.1.k)).mono fun e w' ⟨he,hk⟩=>⟨he,⟨hW.1.below hk,hW.2.keep hk⟩⟩
    refine zCm (fun W=>XT 153 gx x.C g (d+1) (p) w W∧HasC 39 gy cl W) [1,2,3,4,5,6,7] [8,9] (by kernel_rfl) rfl (by kernel_rfl) ⟨H4.out.1.drew,H4.out.2.keep (zAo _)⟩ (fun _ _ _ h=>h) rfl (fun W=>by go_simp<;>rfl) ?_;simp only[opsAt,List.getElem?_toArray,List.getElem?_cons_zero,List.getElem?_cons_succ,Act.put,yB]
    repeat
     (first
      |(refine zBq (v:=?_) ?_ ?_ ?_;rotate_left;(· rfl);(· (intro W hW;obtain⟨c0,c1,c2,c3⟩:=HX.out W hW;go_simp<;>rfl)))
      |(refine zAm ?_ ?_ Q0.out ?_;(· rfl);(· (intro W hW;go_simp<;>rfl)))
      |(refine zAm ?_ ?_ Q1.out ?_;(· rfl);(· (intro W hW;go_simp<;>rfl))))
     simp only[Act.put]
    refine zCg ?_;intro wq hS;change wpList _ _ _ (_ :: _ :: []) _ _;have HS:=hid hS;clear hS HX Q0 Q1;go_wp2_with fail;have HM2:=HM.out;rw[E]at HM2;refine(zBd HS.out.1 _ (by simp) HM2).mono ?_;rintro e w2 ⟨rfl,h2,k2⟩;rw[←E]at h2;have H2:=hid (And.intro h2 (HS.out.2.fk k2 hgy.out (by decide)));clear h2 k2;go_wp2;go_roundg (r.cd.length - (k+1));case measure=>omega
    case rel=>
     refine⟨k+1,by omega,by go_num,hid ⟨⟨?_,H2.out.1.k⟩,H2.out.2⟩⟩;have:=H2.out.1.t;rw[hp]at this;rw[ET.out];simpa only[yE] using this
 case rest=>
 clear H;have H:=hid hcut;clear hcut;clear c6;have c7:wc.cell? ⟨gy,7,none⟩=some (.slice A4 r.pvRed.length c4):=(H.out.x.cell 7).trans C7.out;go_wp2_with fail;refine(zIm g (d+1) _ r.pvRed _ _ B H.out.t (HEA.out _ H.out.k) hB.out (HV4.out.below ((H.out.k.below (Nat.le_of_lt hg.out)).mono hB.out)) hd.out (by have:=HL.out;simp only[yA]at this⊢;omega)).mono ?_;rintro e w8 ⟨rfl,h2,k2⟩;have H8:=hid (H.out.go h2 k2);clear h2 k2;clear H c7;go_wp2_with fail;refine(zFp H8.out (by have:=HL.out;simp only[yA]at this⊢;omega)).mono ?_;rintro e w9 ⟨rfl,h2,k2⟩;have H9:=hid h2;clear h2 k2;clear H8;go_wp2_with fail;go_end0;refine⟨rfl,?_,H9.out.k⟩;rw[EL.out];simpa only[yE] using H9.out.t
theorem fclause_any(g d:Nat)(s:List UInt8)(x:Cl)(w:World)(h:TX g d s w)(he:EnvA g w)(hr:zDg x=true)(hl:s.length+(textL d (clK x)).length≤140737488355328) :
  Calls Tryz.prog 104 #[.pointer (some ⟨g,0,none⟩),.agg x.C] w (TP g d s (textL d (clK x)) w):=by
 obtain⟨k1,k2,k3,k4,k5⟩:=cl_ok hr;have HT:textL d (clK x)=textL d (clP 0 x)++(textL d (clP 1 x)++(textL d (clP 2 x)++(textL d (clP 3 x)++(textL d (clP 4 x)++(textL d (clP 5 x)++(textL d (clP 6 x))))))):=by simp only[clK,zBt]
 rw[HT]at hl⊢;have HL:=hid hl;clear hl HT;have hg:=h.lt;have HE:Hid (∀W,FK g w W→Env W):=hid fun W hk=>(he.keep (hk.below (Nat.le_of_lt hg))).1
 have H:=hid (XT.new (T:=138) (cs:=x.C) h (FK.refl g w) (by decide));clear h he hg;go_enter Tryz.func104,Tryz.ntmps104;go_upto_region 1 with fail
 generalize w.alloc (.cells x.C 138)=wc at H⊢;generalize w.heap.size=gx at H⊢;have c1:wc.cell? ⟨gx,1,none⟩=some (.string (str x.list)):=H.out.x.cell 1;go_upto_if 6 with fail
 go_cut [] (fun wx=>XT 138 gx x.C g d (s++textL d (clP 0 x)) w wx)
 case first=>
  cases hc:(!x.list.isEmpty)with
  |true=>
   have E:textL d (clP 0 x)=lineW d [[102,114,111,109],[108,105,115,116],x.list] [59]:=zAq hc;have hs:=zEx hc;rw[hs];go_wp2_with fail;refine(zBd H.out [[102,114,111,109],[108,105,115,116],x.list] (by simp) (by rw[←E];have:=HL.out;simp only[yA]at this⊢;omega)).mono ?_;rintro e w2 ⟨rfl,h2,k2⟩;have H2:=hid h2;clear h2 k2;go_wp2;go_meet;rw[E];exact H2.out
  |false=>
   have hs:=zEy hc;rw[hs];go_wp2;go_meet;rw[show textL d (clP 0 x)=[]from zAl hc,yF];exact H.out
 case rest=>
 clear H c1;have H:=hid hcut;clear hcut;have c2:=cl2 H.out.x;go_upto_if 14 with fail
 go_cut [] (fun wx=>XT 138 gx x.C g d (s++textL d (clP 0 x)++textL d (clP 1 x)) w wx)
 case first=>
  cases hc:(!(x.tag == -1))with
  |true=>
   have E:textL d (clP 1 x)=lineW d [[102,114,111,109],[116,97,103],decI x.tag] [59]:=zAq hc;have hs:(x.tag != -1)=true:=hc;rw[hs];go_wp2_with fail;refine(zCc x.tag (by have:=m1_ne hc;omega) (by omega) _ (HE.out _ H.out.k)).mono ?_;rintro e w1 ⟨rfl,hb⟩;have H1:=hid (H.out.below hb);clear hb;go_wp2_with fail;refine(zBd H1.out [[102,114,111,109],[116,97,103],decI x.tag] (by simp) (by rw[←E];have:=HL.out;simp only[yA]at this⊢;omega)).mono ?_;rintro e w2 ⟨rfl,h2,k2⟩;have H2:=hid h2;clear h2 k2;go_wp2;go_meet;rw[E];exact H2.out
  |false=>
   have hs:(x.tag != -1)=false:=hc;rw[hs];go_wp2;go_meet;rw[show textL d (clP 1 x)=[]from zAl hc,yF];exact H.out
 case rest=>
 clear H c2;have H:=hid hcut;clear hcut;have c3:=cl3 H.out.x;go_upto_if 23 with fail
 go_cut [] (fun wx=>XT 138 gx x.C g d (s++textL d (clP 0 x)++textL d (clP 1 x)++textL d (clP 2 x)) w wx)
 case first=>
  cases hc:(!(x.setM == -1))with
  |true=>
   have E:textL d (clP 2 x)=lineW d [[116,104,101,110],[109,101,116,114,105,99],decI x.setM] [59]:=zAq hc;have hs:(x.setM != -1)=true:=hc;rw[hs];go_wp2_with fail;refine(zCc x.setM (by have:=m1_ne hc;omega) (by omega) _ (HE.out _ H.out.k)).mono ?_;rintro e w1 ⟨rfl,hb⟩;have H1:=hid (H.out.below hb);clear hb;go_wp2_with fail;refine(zBd H1.out [[116,104,101,110],[109,101,116,114,105,99],decI x.setM] (by simp) (by rw[←E];have:=HL.out;simp only[yA]at this⊢;omega)).mono ?_;rintro e w2 ⟨rfl,h2,k2⟩;have H2:=hid h2;clear h2 k2;go_wp2;go_meet;rw[E];exact H2.out
  |false=>
   have hs:(x.setM != -1)=false:=hc;rw[hs];go_wp2;go_meet;rw[show textL d (clP 2 x)=[]from zAl hc,yF];exact H.out
 case rest=>
 clear H c3;have H:=hid hcut;clear hcut;have c4:=cl4 H.out.x;go_upto_if 32 with fail
 go_cut [] (fun wx=>XT 138 gx x.C g d (s++textL d (clP 0 x)++textL d (clP 1 x)++textL d (clP 2 x)++textL d (clP 3 x)) w wx)
 case first=>
  cases hc:(!(x.setT == -1))with
  |true=>
   have E:textL d (clP 3 x)=lineW d [[116,104,101,110],[116,97,103],decI x.setT] [59]:=zAq hc;have hs:(x.setT != -1)=true:=hc;rw[hs];go_wp2_with fail;refine(zCc x.setT (by have:=m1_ne hc;omega) (by omega) _ (HE.out _ H.out.k)).mono ?_;rintro e w1 ⟨rfl,hb⟩;have H1:=hid (H.out.below hb);clear hb;go_wp2_with fail;refine(zBd H1.out [[116,104,101,110],[116,97,103],decI x.setT] (by simp) (by rw[←E];have:=HL.out;simp only[yA]at this⊢;omega)).mono ?_;rintro e w2 ⟨rfl,h2,k2⟩;have H2:=hid h2;clear h2 k2;go_wp2;go_meet;rw[E];exact H2.out
  |false=>
   have hs:(x.setT != -1)=false:=hc;rw[hs];go_wp2;go_meet;rw[show textL d (clP 3 x)=[]from zAl hc,yF];exact H.out
 case rest=>
 clear H c4;have H:=hid hcut;clear hcut;have c5:=cl5 H.out.x;go_upto_if 41 with fail
 go_cut [] (fun wx=>XT 138 gx x.C g d (s++textL d (clP 0 x)++textL d (clP 1 x)++textL d (clP 2 x)++textL d (clP 3 x)++textL d (clP 4 x)) w wx)
 case first=>
  cases hc:(!(x.setP == -1))with
  |true=>
   have E:textL d (clP 4 x)=lineW d [[116,104,101,110],[112,114,101,102,101,114,101,110,99,101],decI x.setP] [59]:=zAq hc;have hs:(x.setP != -1)=true:=hc;rw[hs];go_wp2_with fail;refine(zCc x.setP (by have:=m1_ne hc;omega) (by omega) _ (HE.out _ H.out.k)).mono ?_;rintro e w1 ⟨rfl,hb⟩;have H1:=hid (H.out.below hb);clear hb;go_wp2_with fail;refine(zBd H1.out [[116,104,101,110],[112,114,101,102,101,114,101,110,99,101],decI x.setP] (by simp) (by rw[←E];have:=HL.out;simp only[yA]at this⊢;omega)).mono ?_;rintro e w2 ⟨rfl,h2,k2⟩;have H2:=hid h2;clear h2 k2;go_wp2;go_meet;rw[E];exact H2.out
  |false=>
   have hs:(x.setP != -1)=false:=hc;rw[hs];go_wp2;go_meet;rw[show textL d (clP 4 x)=[]from zAl hc,yF];exact H.out
 case rest=>
 clear H c5;have H:=hid hcut;clear hcut;have c6:=cl6 H.out.x;go_upto_if 50 with fail
 go_cut [] (fun wx=>XT 138 gx x.C g d (s++textL d (clP 0 x)++textL d (clP 1 x)++textL d (clP 2 x)++textL d (clP 3 x)++textL d (clP 4 x)++textL d (clP 5 x)) w wx)
 case first=>
  cases hc:(!(x.prep==0))with
  |true=>
   have E:textL d (clP 5 x)=lineW d [[116,104,101,110],[112,114,101,112,101,110,100],decI x.prep] [59]:=zAq hc;have hs:(x.prep != 0)=true:=hc;rw[hs];go_wp2_with fail;refine(zCc x.prep (by have:=ne_of hc;omega) (by omega) _ (HE.out _ H.out.k)).mono ?_;rintro e w1 ⟨rfl,hb⟩;have H1:=hid (H.out.below hb);clear hb;go_wp2_with fail;refine(zBd H1.out [[116,104,101,110],[112,114,101,112,101,110,100],decI x.prep] (by simp) (by rw[←E];have:=HL.out;simp only[yA]at this⊢;omega)).mono ?_;rintro e w2 ⟨rfl,h2,k2⟩;have H2:=hid h2;clear h2 k2;go_wp2;go_meet;rw[E];exact H2.out
  |false=>
   have hs:(x.prep != 0)=false:=hc;rw[hs];go_wp2;go_meet;rw[show textL d (clP 5 x)=[]from zAl hc,yF];exact H.out
 case rest=>
 clear H c6;have H:=hid hcut;clear hcut;have c0:=cl0 H.out.x;cases hc:(x.permit)with
 |true=>
  have E:textL d (clP 6 x)=lineW d [[97,99,99,101,112,116]] [59]:=by rw[show clP 6 x=[stn [if x.permit then [97,99,99,101,112,116]else [114,101,106,101,99,116]]]from rfl,hc,zAz,zAn];rfl
  rw[hc]at c0;go_wp2_with fail;refine(zBd H.out [[97,99,99,101,112,116]] (by simp) (by rw[←E];have:=HL.out;simp only[yA]at this⊢;omega)).mono ?_;rintro e w2 ⟨rfl,h2,k2⟩;have H2:=hid h2;clear h2 k2;go_wp2_with fail;go_end0;rw[E];exact⟨rfl,by simpa only[yE] using H2.out.t,H2.out.k⟩
 |false=>
  have E:textL d (clP 6 x)=lineW d [[114,101,106,101,99,116]] [59]:=by rw[show clP 6 x=[stn [if x.permit then [97,99,99,101,112,116]else [114,101,106,101,99,116]]]from rfl,hc,zAz,zAn];rfl
  rw[hc]at c0;go_wp2_with fail;refine(zBd H.out [[114,101,106,101,99,116]] (by simp) (by rw[←E];have:=HL.out;simp only[yA]at this⊢;omega)).mono ?_;rintro e w2 ⟨rfl,h2,k2⟩;have H2:=hid h2;clear h2 k2;go_wp2_with fail;go_end0;rw[E];exact⟨rfl,by simpa only[yE] using H2.out.t,H2.out.k⟩
theorem rng_neq(a b c d:Int)(w:World):(binOp .neq 142 (.agg #[.int .i64 a,.int .i64 b]) (.agg #[.int .i64 c,.int .i64 d])).run Tryz.prog w=.ok (.bool (!(a==c&&b==d))) w:=by
 have hp:=Tryz.rngStood;by_cases h1:a=c
 ·subst h1
  by_cases h2:b=d
  ·subst h2
   simp[go_sem,hp]
  ·have h3:(b==d)=false:=by simp[h2]
   simp[go_sem,hp,h3]
 ·have h2:(a==c)=false:=by simp[h1]
  simp[go_sem,hp,h2]
theorem frule_any(g d:Nat)(s:List UInt8)(x:Ru)(w:World)(h:TX g d s w)(he:EnvA g w)(hr:zDl x=true)(hf:x.fit)(hl:s.length+(textL d (ruK x)).length≤140737488355328) :
  Calls Tryz.prog 105 #[.pointer (some ⟨g,0,none⟩),.agg x.C] w (TP g d s (textL d (ruK x)) w):=by
 obtain⟨k1,-,-,k4,k5⟩:=ru_ok hr;obtain⟨f1,f2,f3,f4⟩:=hf;have HT:textL d (ruK x)=textL d (ruP 0 x)++(textL d (ruP 1 x)++(textL d (ruP 2 x)++(textL d (ruP 3 x)++(textL d (ruP 4 x)++(textL d (ruP 5 x)))))):=by simp only[ruK,zBt]
 rw[HT]at hl⊢;have HL:=hid hl;clear hl HT;have hg:=h.lt;have HE:Hid (∀W,FK g w W→Env W):=hid fun W hk=>(he.keep (hk.below (Nat.le_of_lt hg))).1
 have H:=hid (XT.new (T:=144) (cs:=x.C) h (FK.refl g w) (by decide));clear h he hg;go_enter Tryz.func105,Tryz.ntmps105;go_upto_region 1 with fail
 generalize w.alloc (.cells x.C 144)=wc at H⊢;generalize w.heap.size=gx at H⊢;have c1:=cl1 H.out.x;go_upto_if 7 with fail
 go_cut [] (fun wx=>XT 144 gx x.C g d (s++textL d (ruP 0 x)) w wx)
 case first=>
  cases hc:(!(x.proto == -1))with
  |true=>
   have E:textL d (ruP 0 x)=lineW d [[112,114,111,116,111,99,111,108],protW x.proto] [59]:=zAq hc;have hs:(x.proto != -1)=true:=hc;rw[hs];go_wp2_with fail;refine(fprot_any x.proto (by have:=m1_ne hc;omega) (by omega) _ (HE.out _ H.out.k)).mono ?_;rintro e w1 ⟨rfl,hb⟩;have H1:=hid (H.out.below hb);clear hb;go_wp2_with fail;refine(zBd H1.out [[112,114,111,116,111,99,111,108],protW x.proto] (by simp) (by rw[←E];have:=HL.out;simp only[yA]at this⊢;omega)).mono ?_;rintro e w2 ⟨rfl,h2,k2⟩;have H2:=hid h2;clear h2 k2;go_wp2;go_meet;rw[E];exact H2.out
  |false=>
   have hs:(x.proto != -1)=false:=hc;rw[hs];go_wp2;go_meet;rw[show textL d (ruP 0 x)=[]from zAl hc,yF];exact H.out
 case rest=>
 clear H c1;have H:=hid hcut;clear hcut;go_upto_region 3 with fail
 have HX:Hid (∀W,XT 144 gx x.C g d (s++textL d (ruP 0 x)) w W→W.cell? ⟨gx,3,none⟩=some (.int .u32 (x.sm:Int))):=hid fun W hW=>hW.x.cell 3
 have Q0:Hid (∀W,XT 144 gx x.C g d (s++textL d (ruP 0 x)) w W→Calls Tryz.prog 187 #[.int .i64 32] W fun e w' => e=.returned (.int .u32 4294967295)∧XT 144 gx x.C g d (s++textL d (ruP 0 x)) w w'):=hid fun W hW=>(zFs 32 W).mono fun e w' ⟨he,hw⟩=>⟨he,hw ▸ hW⟩
 refine zBf (fun W=>XT 144 gx x.C g d (s++textL d (ruP 0 x)) w W) (by kernel_rfl) (by kernel_rfl) H.out.drew ?_
 repeat
  (first
   |(refine zCk (v:=?_) ?_ ?_ ?_;rotate_left;(· rfl);(· (intro W hW;have c3:=HX.out W hW;go_simp<;>rfl)))
   |(refine zBp ?_ ?_ Q0.out ?_;(· rfl);(· (intro W hW;go_simp<;>rfl))))
  simp only[Act.put,yB,yC,yD]
 refine zDn (fun wq hS=>?_);have HS:=hid hS;clear hS HX Q0;clear H;obtain⟨-,-,c2,c3⟩:=bl4 HS.out.x;go_upto_if 18 with fail
 go_cut [] (fun wx=>XT 144 gx x.C g d (s++textL d (ruP 0 x)++textL d (ruP 1 x)) w wx)
 case first=>
  cases hc:(!(x.sm==4294967295))with
  |true=>
   have E:textL d (ruP 1 x)=lineW d [[115,111,117,114,99,101],wildW x.sa x.sm] [59]:=zAq hc;have hs:((x.sm:Int) != 4294967295)=true:=by simp at hc⊢;omega
   rw[hs];go_wp2_with fail;refine(fwild_any x.sa x.sm _ f1 f2 (HE.out _ HS.out.k)).mono ?_;rintro e w1 ⟨rfl,hb⟩;have H1:=hid (HS.out.below hb);clear hb;go_wp2_with fail;refine(zBd H1.out [[115,111,117,114,99,101],wildW x.sa x.sm] (by simp) (by rw[←E];have:=HL.out;simp only[yA]at this⊢;omega)).mono ?_;rintro e w2 ⟨rfl,h2,k2⟩;have H2:=hid h2;clear h2 k2;go_wp2;go_meet;rw[E];exact H2.out
  |false=>
   have hs:((x.sm:Int) != 4294967295)=false:=by simp at hc⊢;omega
   rw[hs];go_wp2;go_meet;rw[show textL d (ruP 1 x)=[]from zAl hc,yF];exact HS.out
 case rest=>
 clear HS c2 c3;have H:=hid hcut;clear hcut;go_upto_region 5 with fail
 have HX:Hid (∀W,XT 144 gx x.C g d (s++textL d (ruP 0 x)++textL d (ruP 1 x)) w W→W.cell? ⟨gx,5,none⟩=some (.int .u32 (x.dm:Int))):=hid fun W hW=>hW.x.cell 5
 have Q0:Hid (∀W,XT 144 gx x.C g d (s++textL d (ruP 0 x)++textL d (ruP 1 x)) w W→Calls Tryz.prog 187 #[.int .i64 32] W fun e w' => e=.returned (.int .u32 4294967295)∧XT 144 gx x.C g d (s++textL d (ruP 0 x)++textL d (ruP 1 x)) w w'):=hid fun W hW=>(zFs 32 W).mono fun e w' ⟨he,hw⟩=>⟨he,hw ▸ hW⟩
 refine zBf (fun W=>XT 144 gx x.C g d (s++textL d (ruP 0 x)++textL d (ruP 1 x)) w W) (by kernel_rfl) (by kernel_rfl) H.out.drew ?_
 repeat
  (first
   |(refine zCk (v:=?_) ?_ ?_ ?_;rotate_left;(· rfl);(· (intro W hW;have c5:=HX.out W hW;go_simp<;>rfl)))
   |(refine zBp ?_ ?_ Q0.out ?_;(· rfl);(· (intro W hW;go_simp<;>rfl))))
  simp only[Act.put,yB,yC,yD]
 refine zDn (fun wq hS=>?_);have HS:=hid hS;clear hS HX Q0;clear H;obtain⟨-,-,-,-,c4,c5⟩:=bl6 HS.out.x;go_upto_if 29 with fail
 go_cut [] (fun wx=>XT 144 gx x.C g d (s++textL d (ruP 0 x)++textL d (ruP 1 x)++textL d (ruP 2 x)) w wx)
 case first=>
  cases hc:(!(x.dm==4294967295))with
  |true=>
   have E:textL d (ruP 2 x)=lineW d [[100,101,115,116,105,110,97,116,105,111,110],wildW x.da x.dm] [59]:=zAq hc;have hs:((x.dm:Int) != 4294967295)=true:=by simp at hc⊢;omega
   rw[hs];go_wp2_with fail;refine(fwild_any x.da x.dm _ f3 f4 (HE.out _ HS.out.k)).mono ?_;rintro e w1 ⟨rfl,hb⟩;have H1:=hid (HS.out.below hb);clear hb;go_wp2_with fail;refine(zBd H1.out [[100,101,115,116,105,110,97,116,105,111,110],wildW x.da x.dm] (by simp) (by rw[←E];have:=HL.out;simp only[yA]at this⊢;omega)).mono ?_;rintro e w2 ⟨rfl,h2,k2⟩;have H2:=hid h2;clear h2 k2;go_wp2;go_meet;rw[E];exact H2.out
  |false=>
   have hs:((x.dm:Int) != 4294967295)=false:=by simp at hc⊢;omega
   rw[hs];go_wp2;go_meet;rw[show textL d (ruP 2 x)=[]from zAl hc,yF];exact HS.out
 case rest=>
 clear HS c4 c5;have H:=hid hcut;clear hcut;go_upto_region 8 with fail
 have hb:=(Below.refl wc.heap.size wc).alloc (yI _) (.cells #[.int .i64 0,.int .i64 65535] 142);have H5:=hid (And.intro (H.out.below hb) (HasC.new wc 142 #[.int .i64 0,.int .i64 65535]));have hgy:Hid (wc.heap.size≠g):=hid (by have:=H.out.t.lt;omega);clear hb H;generalize wc.alloc (.cells #[.int .i64 0,.int .i64 65535] 142)=w5 at H5⊢;generalize wc.heap.size=gy at H5 hgy⊢;obtain⟨y0,y1⟩:=bl2 H5.out.2;have r1:∀w,(binOp .neq 142 (.agg #[.int .i64 x.slo,.int .i64 x.shi]) (.agg #[.int .i64 0,.int .i64 65535])).run Tryz.prog w=.ok (.bool (!(x.slo==0&&x.shi==65535))) w:=fun w=>rng_neq _ _ _ _ w
 obtain⟨-,-,-,-,-,-,c6,c7⟩:=bl8 H5.out.1.x;go_upto_if 40 with fail
 go_cut [] (fun wx=>XT 144 gx x.C g d (s++textL d (ruP 0 x)++textL d (ruP 1 x)++textL d (ruP 2 x)++textL d (ruP 3 x)) w wx∧HasC 142 gy #[.int .i64 0,.int .i64 65535] wx)
 case first=>
  cases hc:(!(x.slo==0&&x.shi==65535))with
  |true=>
   have E:textL d (ruP 3 x)=lineW d [[115,111,117,114,99,101,45,112,111,114,116],portW x.slo x.shi] [59]:=zAq hc;have hs:(!(x.slo==0) || !(x.shi==65535))=true:=by rw[←Bool.not_and];exact hc
   rw[hs];go_wp2_with fail;refine(fports_any x.slo x.shi _ k4.1 k4.2.1 k4.2.2 (HE.out _ H5.out.1.k)).mono ?_;rintro e w1 ⟨rfl,hb⟩;have H1:=hid (And.intro (H5.out.1.below hb) (H5.out.2.keep hb));clear hb;go_wp2_with fail;refine(zBd H1.out.1 [[115,111,117,114,99,101,45,112,111,114,116],portW x.slo x.shi] (by simp) (by rw[←E];have:=HL.out;simp only[yA]at this⊢;omega)).mono ?_;rintro e w2 ⟨rfl,h2,k2⟩;have H2:=hid (And.intro h2 (H1.out.2.fk k2 hgy.out (by decide)));clear h2 k2;go_wp2;go_meet;rw[E];exact H2.out
  |false=>
   have hs:(!(x.slo==0) || !(x.shi==65535))=false:=by rw[←Bool.not_and];exact hc
   rw[hs];go_wp2;go_meet;rw[show textL d (ruP 3 x)=[]from zAl hc,yF];exact H5.out
 case rest=>
 clear H5 c6 c7 y0 y1 r1;have H:=hid hcut;clear hcut;obtain⟨y0,y1⟩:=bl2 H.out.2;have r1:∀w,(binOp .neq 142 (.agg #[.int .i64 x.dlo,.int .i64 x.dhi]) (.agg #[.int .i64 0,.int .i64 65535])).run Tryz.prog w=.ok (.bool (!(x.dlo==0&&x.dhi==65535))) w:=fun w=>rng_neq _ _ _ _ w
 have c8:=cl8 H.out.1.x;have c9:=cl9 H.out.1.x;go_upto_if 50 with fail
 go_cut [] (fun wx=>XT 144 gx x.C g d (s++textL d (ruP 0 x)++textL d (ruP 1 x)++textL d (ruP 2 x)++textL d (ruP 3 x)++textL d (ruP 4 x)) w wx∧HasC 142 gy #[.int .i64 0,.int .i64 65535] wx)
 case first=>
  cases hc:(!(x.dlo==0&&x.dhi==65535))with
  |true=>
   have E:textL d (ruP 4 x)=lineW d [[100,101,115,116,105,110,97,116,105,111,110,45,112,111,114,116],portW x.dlo x.dhi] [59]:=zAq hc;have hs:(!(x.dlo==0) || !(x.dhi==65535))=true:=by rw[←Bool.not_and];exact hc
   rw[hs];go_wp2_with fail;refine(fports_any x.dlo x.dhi _ k5.1 k5.2.1 k5.2.2 (HE.out _ H.out.1.k)).mono ?_;rintro e w1 ⟨rfl,hb⟩;have H1:=hid (And.intro (H.out.1.below hb) (H.out.2.keep hb));clear hb;go_wp2_with fail;refine(zBd H1.out.1 [[100,101,115,116,105,110,97,116,105,111,110,45,112,111,114,116],portW x.dlo x.dhi] (by simp) (by rw[←E];have:=HL.out;simp only[yA]at this⊢;omega)).mono ?_;rintro e w2 ⟨rfl,h2,k2⟩;have H2:=hid (And.intro h2 (H1.out.2.fk k2 hgy.out (by decide)));clear h2 k2;go_wp2;go_meet;rw[E];exact H2.out
  |false=>
   have hs:(!(x.dlo==0) || !(x.dhi==65535))=false:=by rw[←Bool.not_and];exact hc
   rw[hs];go_wp2;go_meet;rw[show textL d (ruP 4 x)=[]from zAl hc,yF];exact H.out
 case rest=>
 clear H c8 c9 y0 y1 r1;have H:=hid hcut;clear hcut;have c0:=cl0 H.out.1.x;cases hc:(x.permit)with
 |true=>
  have E:textL d (ruP 5 x)=lineW d [[97,99,99,101,112,116]] [59]:=by rw[show ruP 5 x=[stn [if x.permit then [97,99,99,101,112,116]else [100,105,115,99,97,114,100]]]from rfl,hc,zAz,zAn];rfl
  rw[hc]at c0;go_wp2_with fail;refine(zBd H.out.1 [[97,99,99,101,112,116]] (by simp) (by rw[←E];have:=HL.out;simp only[yA]at this⊢;omega)).mono ?_;rintro e w2 ⟨rfl,h2,k2⟩;have H2:=hid (And.intro h2 (H.out.2.fk k2 hgy.out (by decide)));clear h2 k2;go_wp2_with fail;go_end0;rw[E];exact⟨rfl,by simpa only[yE] using H2.out.1.t,H2.out.1.k⟩
 |false=>
  have E:textL d (ruP 5 x)=lineW d [[100,105,115,99,97,114,100]] [59]:=by rw[show ruP 5 x=[stn [if x.permit then [97,99,99,101,112,116]else [100,105,115,99,97,114,100]]]from rfl,hc,zAz,zAn];rfl
  rw[hc]at c0;go_wp2_with fail;refine(zBd H.out.1 [[100,105,115,99,97,114,100]] (by simp) (by rw[←E];have:=HL.out;simp only[yA]at this⊢;omega)).mono ?_;rintro e w2 ⟨rfl,h2,k2⟩;have H2:=hid (And.intro h2 (H.out.2.fk k2 hgy.out (by decide)));clear h2 k2;go_wp2_with fail;go_end0;rw[E];exact⟨rfl,by simpa only[yE] using H2.out.1.t,H2.out.1.k⟩
end Go.Proofs.YtdlgnhefpoalnaaGreatDoor
