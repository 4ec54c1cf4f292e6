/- Alpha's Format: the walks of prefixRule, accessRule: words that grow. Conditions: the text is at most 2^47 bytes; Go's own tables lie below it. -/
import Derived.Test.YthcnojmldldpeaaGreatDoorGae
import Derived.Test.YthcnojmldldpeaaGreatDoorGaf
set_option maxHeartbeats 8000000
set_option maxRecDepth 100000
namespace Go.Proofs.YthcnojmldldpeaaGreatDoor
open Lib (hid)
open Go.RowKit
theorem aiface_any(g:Nat)(s:List UInt8)(x:If)(w:World)(h:TA g s w)(he:EnvA g w)(hr:zCs x=true)(hf:x.fit)(hl:s.length+(textA (ifAs x)).length≤140737488355328) :
  Calls Tryz.prog 11 #[.pointer (some ⟨g,0,none⟩),.agg x.C] w (AP g s (textA (ifAs x)) w):=by
 obtain⟨k1,k2,k3,-,k5,k6,-⟩:=ifc_ok hr;have HT:textA (ifAs x)=textA (ifA 0 x)++(textA (ifA 1 x)++(textA (ifA 2 x)++(textA (ifA 3 x)++(textA (ifA 4 x)++(textA (ifA 5 x)++(textA (ifA 6 x)++(textA (ifA 7 x)++(textA (ifA 8 x))))))))):=by simp only[ifAs,zAk]
 rw[HT]at hl⊢;have HL:=hid hl;clear hl HT;have hg:=h.lt;have HE:Hid (∀W,FK g w W→Env W):=hid fun W hk=>(he.keep (hk.below (Nat.le_of_lt hg))).1
 have H:=hid ((XL.start h).new (T:=68) (cs:=x.C) (by decide));clear h he hg;go_enter Tryz.func11,Tryz.ntmps11;go_upto_region 1 with fail
 generalize w.alloc (.cells x.C 68)=wc at H⊢;generalize w.heap.size=gx at H⊢;have c0:wc.cell? ⟨gx,0,none⟩=some (.string (str x.name)):=H.out.a.cell 0;have E5:textA (ifA 0 x)=lnW (false,[[105,110,116,101,114,102,97,99,101],x.name]):=zAx _;go_wp2_with fail;refine(zBk H.out false [[105,110,116,101,114,102,97,99,101],x.name] (by simp) (by rw[←E5];have:=HL.out;simp only[List.length_append]at this⊢;omega)).mono ?_;rintro e w5 ⟨rfl,h2⟩;rw[←E5]at h2;have H5:=hid h2;clear h2 E5 H c0;have c1:w5.cell? ⟨gx,1,none⟩=some (.int .u32 (x.addr:Int)):=H5.out.a.cell 1;have c2:w5.cell? ⟨gx,2,none⟩=some (.int .i64 x.len):=H5.out.a.cell 2;go_upto_if 11 with fail
 go_cut [] (fun wx=>XL [(68,gx,x.C)] g (s++textA (ifA 0 x)++textA (ifA 1 x)) w wx)
 case first=>
  cases hc:(!(x.len==0))with
  |true=>
   have E:textA (ifA 1 x)=lnW (true,[[97,100,100,114,101,115,115],hostF x.addr x.len]):=zAw hc;have hs:(x.len != 0)=true:=hc;rw[hs];go_wp2_with fail;refine(zFx x.addr x.len _ hf (HE.out _ H5.out.k)).mono ?_;rintro e w1 ⟨rfl,hb⟩;have H1:=hid (H5.out.below hb);clear hb;go_wp2_with fail;refine(zBk H1.out true [[97,100,100,114,101,115,115],hostF x.addr x.len] (by simp) (by rw[←E];have:=HL.out;simp only[List.length_append]at this⊢;omega)).mono ?_;rintro e w2 ⟨rfl,h2⟩;have H2:=hid h2;clear h2;go_wp2;go_meet;rw[E];exact H2.out
  |false=>
   have hs:(x.len != 0)=false:=hc;rw[hs];go_wp2;go_meet;rw[show textA (ifA 1 x)=[]from zAn hc,List.append_nil];exact H5.out
 case rest=>
 clear H5 c1 c2;have H:=hid hcut;clear hcut;have c3:wc.cell? ⟨gx,3,none⟩=some (.int .i64 x.vlan):=H.out.a.cell 3;go_upto_if 22 with fail
 go_cut [] (fun wx=>XL [(68,gx,x.C)] g (s++textA (ifA 0 x)++textA (ifA 1 x)++textA (ifA 2 x)) w wx)
 case first=>
  cases hc:(!(x.vlan==0))with
  |true=>
   have E:textA (ifA 2 x)=lnW (true,[[118,108,97,110],decI x.vlan]):=zAw hc;have hs:(x.vlan != 0)=true:=hc;rw[hs];go_wp2_with fail;refine(zBn x.vlan k2.1 (by omega) _ (HE.out _ H.out.k)).mono ?_;rintro e w1 ⟨rfl,hb⟩;have H1:=hid (H.out.below hb);clear hb;go_wp2_with fail;refine(zBk H1.out true [[118,108,97,110],decI x.vlan] (by simp) (by rw[←E];have:=HL.out;simp only[List.length_append]at this⊢;omega)).mono ?_;rintro e w2 ⟨rfl,h2⟩;have H2:=hid h2;clear h2;go_wp2;go_meet;rw[E];exact H2.out
  |false=>
   have hs:(x.vlan != 0)=false:=hc;rw[hs];go_wp2;go_meet;rw[show textA (ifA 2 x)=[]from zAn hc,List.append_nil];exact H.out
 case rest=>
 clear H c3;have H:=hid hcut;clear hcut;have c4:wc.cell? ⟨gx,4,none⟩=some (.bool x.down):=H.out.a.cell 4;go_upto_if 31 with fail
 go_cut [] (fun wx=>XL [(68,gx,x.C)] g (s++textA (ifA 0 x)++textA (ifA 1 x)++textA (ifA 2 x)++textA (ifA 3 x)) w wx)
 case first=>
  cases hc:(!x.down)with
  |true=>
   have E:textA (ifA 3 x)=lnW (true,[[110,111],[115,104,117,116,100,111,119,110]]):=zAw hc;go_wp2_with fail;refine(zBk H.out true [[110,111],[115,104,117,116,100,111,119,110]] (by simp) (by rw[←E];have:=HL.out;simp only[List.length_append]at this⊢;omega)).mono ?_;rintro e w2 ⟨rfl,h2⟩;have H2:=hid h2;clear h2;go_wp2;go_meet;rw[E];exact H2.out
  |false=>
   go_wp2;go_meet;rw[show textA (ifA 3 x)=[]from zAn hc,List.append_nil];exact H.out
 case rest=>
 clear H c4;have H:=hid hcut;clear hcut;have c5:wc.cell? ⟨gx,5,none⟩=some (.bool x.ls):=H.out.a.cell 5;go_upto_if 36 with fail
 go_cut [] (fun wx=>XL [(68,gx,x.C)] g (s++textA (ifA 0 x)++textA (ifA 1 x)++textA (ifA 2 x)++textA (ifA 3 x)++textA (ifA 4 x)) w wx)
 case first=>
  cases hc:(x.ls)with
  |true=>
   have E:textA (ifA 4 x)=lnW (true,[[108,115],[97,114,101,97],decI x.area,[99,111,115,116],decI x.cost]):=zAw hc;have b0:0≤x.area∧x.area≤16777215:=by have:=(k6 hc).1;omega
   have b1:0≤x.cost∧x.cost≤16777215:=by have:=(k6 hc).2;omega
   go_upto_region 9 with fail
   have HX:Hid (∀W,XL [(68,gx,x.C)] g (s++textA (ifA 0 x)++textA (ifA 1 x)++textA (ifA 2 x)++textA (ifA 3 x)) w W→W.cell? ⟨gx,6,none⟩=some (.int .i64 x.area)∧W.cell? ⟨gx,7,none⟩=some (.int .i64 x.cost)):=hid fun W hW=>⟨hW.a.cell 6,hW.a.cell 7⟩
   refine zBt (fun W=>XL [(68,gx,x.C)] g (s++textA (ifA 0 x)++textA (ifA 1 x)++textA (ifA 2 x)++textA (ifA 3 x)) w W) [1,2,3,4,5,6] [7,8] (by kernel_rfl) rfl (by kernel_rfl) (H.out.drew) (fun _ _ _ h=>h) rfl (fun W=>by go_simp<;>rfl) ?_;simp only[opsAt,List.getElem?_toArray,List.getElem?_cons_zero,List.getElem?_cons_succ,Act.put,List.setIfInBounds_toArray]
   repeat
    (first
     |(refine zCc (v:=?_) ?_ ?_ ?_;rotate_left;(· rfl);(· (intro W hW;obtain⟨c0,c1⟩:=HX.out W hW;go_simp<;>rfl)))
     |(refine zAq ?_ ?_ (fun W hW=>hW.call (zBn x.area b0.1 b0.2 W (HE.out _ hW.k))) ?_;(· rfl);(· (intro W hW;go_simp<;>rfl)))
     |(refine zAq ?_ ?_ (fun W hW=>hW.call (zBn x.cost b1.1 b1.2 W (HE.out _ hW.k))) ?_;(· rfl);(· (intro W hW;go_simp<;>rfl))))
    simp only[Act.put]
   refine zCn ?_;intro wq hS;change wpList _ _ _ (_ :: _ :: []) _ _;have HS:=hid hS;clear hS HX;go_wp2_with fail;refine(zBk HS.out true [[108,115],[97,114,101,97],decI x.area,[99,111,115,116],decI x.cost] (by simp) (by rw[←E];have:=HL.out;simp only[List.length_append]at this⊢;omega)).mono ?_;rintro e w2 ⟨rfl,h2⟩;have H2:=hid h2;clear h2;go_wp2;go_meet;rw[E];exact H2.out
  |false=>
   go_wp2;go_meet;rw[show textA (ifA 4 x)=[]from zAn hc,List.append_nil];exact H.out
 case rest=>
 clear H c5;have H:=hid hcut;clear hcut;have c8:wc.cell? ⟨gx,8,none⟩=some (.bool x.dv):=H.out.a.cell 8;go_upto_if 47 with fail
 go_cut [] (fun wx=>XL [(68,gx,x.C)] g (s++textA (ifA 0 x)++textA (ifA 1 x)++textA (ifA 2 x)++textA (ifA 3 x)++textA (ifA 4 x)++textA (ifA 5 x)) w wx)
 case first=>
  cases hc:(x.dv)with
  |true=>
   have E:textA (ifA 5 x)=lnW (true,[[100,118]]):=zAw hc;go_wp2_with fail;refine(zBk H.out true [[100,118]] (by simp) (by rw[←E];have:=HL.out;simp only[List.length_append]at this⊢;omega)).mono ?_;rintro e w2 ⟨rfl,h2⟩;have H2:=hid h2;clear h2;go_wp2;go_meet;rw[E];exact H2.out
  |false=>
   go_wp2;go_meet;rw[show textA (ifA 5 x)=[]from zAn hc,List.append_nil];exact H.out
 case rest=>
 clear H c8;have H:=hid hcut;clear hcut;have c9:wc.cell? ⟨gx,9,none⟩=some (.string (str x.inn)):=H.out.a.cell 9;go_upto_if 53 with fail
 go_cut [] (fun wx=>XL [(68,gx,x.C)] g (s++textA (ifA 0 x)++textA (ifA 1 x)++textA (ifA 2 x)++textA (ifA 3 x)++textA (ifA 4 x)++textA (ifA 5 x)++textA (ifA 6 x)) w wx)
 case first=>
  cases hc:(!x.inn.isEmpty)with
  |true=>
   have E:textA (ifA 6 x)=lnW (true,[[105,110],x.inn]):=zAw hc;have hs:=zCm hc;rw[hs];go_wp2_with fail;refine(zBk H.out true [[105,110],x.inn] (by simp) (by rw[←E];have:=HL.out;simp only[List.length_append]at this⊢;omega)).mono ?_;rintro e w2 ⟨rfl,h2⟩;have H2:=hid h2;clear h2;go_wp2;go_meet;rw[E];exact H2.out
  |false=>
   have hs:=zCg hc;rw[hs];go_wp2;go_meet;rw[show textA (ifA 6 x)=[]from zAn hc,List.append_nil];exact H.out
 case rest=>
 clear H c9;have H:=hid hcut;clear hcut;have c10:wc.cell? ⟨gx,10,none⟩=some (.string (str x.out)):=H.out.a.cell 10;go_upto_if 61 with fail
 go_cut [] (fun wx=>XL [(68,gx,x.C)] g (s++textA (ifA 0 x)++textA (ifA 1 x)++textA (ifA 2 x)++textA (ifA 3 x)++textA (ifA 4 x)++textA (ifA 5 x)++textA (ifA 6 x)++textA (ifA 7 x)) w wx)
 case first=>
  cases hc:(!x.out.isEmpty)with
  |true=>
   have E:textA (ifA 7 x)=lnW (true,[[111,117,116],x.out]):=zAw hc;have hs:=zCm hc;rw[hs];go_wp2_with fail;refine(zBk H.out true [[111,117,116],x.out] (by simp) (by rw[←E];have:=HL.out;simp only[List.length_append]at this⊢;omega)).mono ?_;rintro e w2 ⟨rfl,h2⟩;have H2:=hid h2;clear h2;go_wp2;go_meet;rw[E];exact H2.out
  |false=>
   have hs:=zCg hc;rw[hs];go_wp2;go_meet;rw[show textA (ifA 7 x)=[]from zAn hc,List.append_nil];exact H.out
 case rest=>
 clear H c10;have H:=hid hcut;clear hcut;have c11:wc.cell? ⟨gx,11,none⟩=some (.int .i64 x.side):=H.out.a.cell 11;by_cases e1:x.side=1
 ·have E:textA (ifA 8 x)=lnW (true,[[115,105,100,101],[105,110,115,105,100,101]]):=by rw[show ifA 8 x=sideA x.side from rfl,e1];exact zAx _
  have f1:(x.side==1)=true:=by rw[e1];rfl
  have f2:(x.side==2)=false:=by rw[e1];rfl
  clear e1;go_wp2_with fail;refine(zBk H.out true [[115,105,100,101],[105,110,115,105,100,101]] (by simp) (by rw[←E];have:=HL.out;simp only[List.length_append]at this⊢;omega)).mono ?_;rintro e w2 ⟨rfl,h2⟩;have H2:=hid h2;clear h2;go_wp2_with fail;go_end0;rw[E];exact⟨rfl,by simpa only[List.append_assoc] using H2.out.t,H2.out.k⟩
 by_cases e2:x.side=2
 ·have E:textA (ifA 8 x)=lnW (true,[[115,105,100,101],[111,117,116,115,105,100,101]]):=by rw[show ifA 8 x=sideA x.side from rfl,e2];exact zAx _
  have f1:(x.side==1)=false:=by rw[e2];rfl
  have f2:(x.side==2)=true:=by rw[e2];rfl
  clear e2;go_wp2_with fail;refine(zBk H.out true [[115,105,100,101],[111,117,116,115,105,100,101]] (by simp) (by rw[←E];have:=HL.out;simp only[List.length_append]at this⊢;omega)).mono ?_;rintro e w2 ⟨rfl,h2⟩;have H2:=hid h2;clear h2;go_wp2_with fail;go_end0;rw[E];exact⟨rfl,by simpa only[List.append_assoc] using H2.out.t,H2.out.k⟩
 have d1:(x.side==1)=false:=by simpa using e1
 have d2:(x.side==2)=false:=by simpa using e2
 have E:textA (ifA 8 x)=[]:=by rw[show ifA 8 x=sideA x.side from rfl,sideA,d1,d2];rfl
 go_wp2_with fail;go_end0;rw[E,List.append_nil];exact⟨rfl,by simpa only[List.append_assoc] using H.out.t,H.out.k⟩
theorem validP_in{p:Nat}{n:Int}(h:zAv p n=true):0≤n∧n≤32:=by
 unfold zAv at h;simp only[Bool.and_eq_true,decide_eq_true_eq]at h;exact h.1
def WP(ws:List (List UInt8))(w:World)(e:Ending)(w' : World):Prop:=∃v,e=.returned v∧(∀g,g<w.heap.size→SlS g v ws w')∧Below w.heap.size w w'
section
variable {T : TypeId} {gx B : Nat} {cs : Array Value} {ws : List (List UInt8)} {v : Value} {w w0 w' : World} {f : FuncId} {args : Array Value} {u : Value}
theorem YA.one(h:HasC T gx cs w):YA [(T,gx,cs)] w w:=⟨fun e he=>by rcases List.mem_singleton.1 he with rfl;exact h,Below.refl _ _⟩
theorem YA.call{L:List (TypeId × Nat × Array Value)}(h:YA L w0 w)(hc:Calls Tryz.prog f args w fun e w' => e=.returned u∧Below w.heap.size w w'):Calls Tryz.prog f args w fun e w' => e=.returned u∧YA L w0 w' := hc.mono fun _ _ ⟨he,hk⟩=>⟨he,h.below hk⟩
theorem zDd{c:Bool}{l:List (List UInt8)}(h:l.length≤20):(optL c l).length≤20:=by cases c;exact Nat.zero_le _;exact h
theorem zCh{a b:List (List UInt8)}{n:Nat}(h:a.length≤n)(h' : b.length≤20):(a++b).length≤n+20:=by rw[List.length_append];exact Nat.add_le_add h h'
theorem goalA_le(x:Sr):(goalA x).length≤20:=by unfold goalA;(repeat' split)<;>exact Nat.le_of_ble_eq_true rfl
theorem ws_pr(n:List UInt8)(j:Nat)(y:PRule):(prA n j y).2.length≤60:=by
 have h:=zCh (zCh (n:=20) (a:=[[112,114,101,102,105,120,45,108,105,115,116],n,nthW j,yesW y.permit,pfxF y.pa y.pl]) (Nat.le_of_ble_eq_true rfl) (zDd (c:=!(y.min==y.pl)) (l:=[[103,101],decI y.min]) (Nat.le_of_ble_eq_true rfl))) (zDd (c:=!(y.max==if y.min==y.pl then y.pl else 32)) (l:=[[108,101],decI y.max]) (Nat.le_of_ble_eq_true rfl))
 rwa [List.append_assoc]at h
theorem ws_ru(n:List UInt8)(j:Nat)(y:Ru):(ruA n j y).2.length≤60:=by
 have h:=zCh (zCh (n:=20) (a:=[[97,99,99,101,115,115,45,108,105,115,116],n,nthW j,yesW y.permit,protA y.proto,wildT y.sa y.sm,wildT y.da y.dm]) (Nat.le_of_ble_eq_true rfl) (show(zBu [102,114,111,109] y.slo y.shi).length≤20 from zDd (Nat.le_of_ble_eq_true rfl))) (show(zBu [116,111] y.dlo y.dhi).length≤20 from zDd (Nat.le_of_ble_eq_true rfl))
 rwa [List.append_assoc]at h
theorem WF.call(h:WF T gx cs ws v w0 w)(hc:Calls Tryz.prog f args w fun e w' => e=.returned u∧Below w.heap.size w w'):Calls Tryz.prog f args w fun e w' => e=.returned u∧WF T gx cs ws v w0 w' := hc.mono fun _ _ ⟨he,hk⟩=>⟨he,h.below hk⟩
theorem WF.done(h:WF T w.heap.size cs ws v (w.alloc (.cells cs T)) w')(h0:0<ws.length):WP ws w (.returned v) w' := by
 have hs:w.heap.size≤(w.alloc (.cells cs T)).heap.size:=by show _≤(w.heap.push _).size;rw[Array.size_push];omega
 exact⟨v,rfl,fun g hg=>h.sls (by omega) h0,((Below.refl w.heap.size w).alloc (Nat.le_refl _) (.cells cs T)).trans (h.b.mono hs)⟩
end
theorem aprefix_any(n:List UInt8)(i:Nat)(x:PRule)(w:World)(he:Env w)(hi:i≤100000)(hr:zEg x=true)(hf:x.fit) :
  Calls Tryz.prog 43 #[.string (str n),.int .i64 (i:Int),.agg x.C] w (WP (prA n i x).2 w):=by
 obtain⟨hv,k1,k2,k3⟩:=pr_ok hr;have k0:=(validP_in hv).1;clear hv hr;obtain⟨most,hm⟩:∃most,most=(if x.min==x.pl then x.pl else 32):=⟨_,rfl⟩;have HT:Hid ((prA n i x).2=[[112,114,101,102,105,120,45,108,105,115,116],n,nthW i,yesW x.permit,pfxF x.pa x.pl]++(optL (!(x.min==x.pl)) [[103,101],decI x.min]++optL (!(x.max==most)) [[108,101],decI x.max])):=hid (by rw[hm];rfl);have HM:Hid (most=(if x.min==x.pl then x.pl else 32)):=hid hm;clear hm;have HBX:Hid (∀W,Below (w.alloc (.cells x.C 92)).heap.size (w.alloc (.cells x.C 92)) W→Env W):=hid fun W hk=>(he.below (((Below.refl w.heap.size w).alloc (Nat.le_refl _) (.cells x.C 92)).trans (hk.mono (by show _≤(w.heap.push _).size;rw[Array.size_push];omega))))
 have HNX:=hid (HasC.new w 92 x.C);have HD:Hid (∀ws v w', 0<ws.length→WF 92 w.heap.size x.C ws v (w.alloc (.cells x.C 92)) w' → WP ws w (.returned v) w'):=hid fun ws v w' h0 h=>h.done h0
 clear he;go_enter Tryz.func43,Tryz.ntmps43;go_upto_region 1 with fail
 generalize w.alloc (.cells x.C 92)=w4 at HBX HNX HD⊢;generalize w.heap.size=gx at HNX HD⊢;have HY:=hid (YA.one HNX.out);have HX:Hid (∀W,YA [(92,gx,x.C)] w4 W→W.cell? ⟨gx,0,none⟩=some (.bool x.permit)∧W.cell? ⟨gx,1,none⟩=some (.int .u32 (x.pa:Int))∧W.cell? ⟨gx,2,none⟩=some (.int .i64 x.pl)):=hid fun W hW=>⟨hW.a.cell 0,hW.a.cell 1,hW.a.cell 2⟩
 refine zEc (fun W=>YA [(92,gx,x.C)] w4 W) 9 (by kernel_rfl) (by kernel_rfl) (HY.out.drew) ?_
 repeat
  (first
   |(refine zCc (v:=?_) ?_ ?_ ?_;rotate_left;(· rfl);(· (intro W hW;obtain⟨c0,c1,c2⟩:=HX.out W hW;go_simp<;>rfl)))
   |(refine zAq ?_ ?_ (fun W hW=>hW.call (aseq_any i hi W (HBX.out _ hW.b))) ?_;(· rfl);(· (intro W hW;go_simp<;>rfl)))
   |(refine zAq ?_ ?_ (fun W hW=>hW.call (zHx x.permit W)) ?_;(· rfl);(· (intro W hW;go_simp<;>rfl)))
   |(refine zAq ?_ ?_ (fun W hW=>hW.call (zBr x.pa x.pl W hf (HBX.out _ hW.b))) ?_;(· rfl);(· (intro W hW;go_simp<;>rfl))))
  simp only[Act.put,List.setIfInBounds_toArray,List.set_cons_zero,List.set_cons_succ]
 refine zCn ?_;intro wq hS;change wpList _ _ _ (_ :: _ :: []) _ _;have HS:=hid hS;clear hS HX;go_upto_region 2 with fail
 have HF:=hid (WF.new (ws:=[[112,114,101,102,105,120,45,108,105,115,116],n,nthW i,yesW x.permit,pfxF x.pa x.pl]) HS.out.a HS.out.b (by decide) (by simp));change Code.wp _ _ _ _ (wq.alloc (.cells (([[112,114,101,102,105,120,45,108,105,115,116],n,nthW i,yesW x.permit,pfxF x.pa x.pl]:List (List UInt8)).map strV).toArray 9));clear HY HS;generalize wq.alloc (.cells (([[112,114,101,102,105,120,45,108,105,115,116],n,nthW i,yesW x.permit,pfxF x.pa x.pl]:List (List UInt8)).map strV).toArray 9)=w5 at HF⊢;generalize wq.heap.size=bw at HF⊢;have c2:w5.cell? ⟨gx,2,none⟩=some (.int .i64 x.pl):=HF.out.x.cell 2;have c3:w5.cell? ⟨gx,3,none⟩=some (.int .i64 x.min):=HF.out.x.cell 3;go_upto_if 27 with fail
 go_cut [7,8] (fun v m wx=>WF 92 gx x.C ([[112,114,101,102,105,120,45,108,105,115,116],n,nthW i,yesW x.permit,pfxF x.pa x.pl]++optL (!(x.min==x.pl)) [[103,101],decI x.min]) v w4 wx∧m=.int .i64 most)
 case first=>
  cases hc:(!(x.min==x.pl))with
  |true=>
   have E:(optL (!(x.min==x.pl)) [[103,101],decI x.min]:List (List UInt8))=[[103,101],decI x.min]:=by rw[hc];rfl
   have hs:(x.min != x.pl)=true:=hc;have e0:(32:Int)=most:=by rw[HM.out,show(x.min==x.pl)=false by simpa using hc];rfl
   rw[hs];go_wp2_with fail;refine(zBn x.min (by omega) (by omega) _ (HBX.out _ HF.out.b)).mono ?_;rintro e w1 ⟨rfl,hb⟩;have HG:=hid (HF.out.below hb);clear hb;go_wp2_with (at_builtin;refine zBb rfl _ _ rfl HG.out [[103,101],decI x.min] rfl rfl (Nat.le_trans (Nat.add_le_add (Nat.le_of_ble_eq_true rfl:_≤20) (Nat.le_of_ble_eq_true rfl:_≤20)) (Nat.le_of_ble_eq_true rfl)) ?_);intro v6 w6 h6 k6;replace h6:=hid h6;clear k6;go_wp2;go_meet;exact⟨by rw[E];exact h6.out,by rw[←e0]⟩
  |false=>
   have E:(optL (!(x.min==x.pl)) [[103,101],decI x.min]:List (List UInt8))=[]:=by rw[hc];rfl
   have hs:(x.min != x.pl)=false:=hc;have e0:x.pl=most:=by rw[HM.out,show(x.min==x.pl)=true by simpa using hc];rfl
   rw[hs];go_wp2;go_meet;exact⟨by rw[E,List.append_nil];exact HF.out,by rw[←e0]⟩
 case rest=>
 clear HF c2 c3;obtain⟨hcut,rfl⟩:=hcut;have HF:=hid hcut;clear hcut;have c4:wc.cell? ⟨gx,4,none⟩=some (.int .i64 x.max):=HF.out.x.cell 4;go_upto_if 37 with fail
 cases hc:(!(x.max==most))with
 |true=>
  have hs:(x.max != most)=true:=hc;have E:(prA n i x).2=[[112,114,101,102,105,120,45,108,105,115,116],n,nthW i,yesW x.permit,pfxF x.pa x.pl]++optL (!(x.min==x.pl)) [[103,101],decI x.min]++[[108,101],decI x.max]:=by rw[HT.out,hc,List.append_assoc];rfl
  rw[hs];go_wp2_with fail;refine(zBn x.max (by omega) (by omega) _ (HBX.out _ HF.out.b)).mono ?_;rintro e w1 ⟨rfl,hb⟩;have HG:=hid (HF.out.below hb);clear hb;go_wp2_with (at_builtin;refine zBb rfl _ _ rfl HG.out [[108,101],decI x.max] rfl rfl (Nat.le_trans (Nat.add_le_add (zCh (Nat.le_of_ble_eq_true rfl:_≤20) (zDd (Nat.le_of_ble_eq_true rfl))) (Nat.le_of_ble_eq_true rfl:_≤20)) (Nat.le_of_ble_eq_true rfl)) ?_);intro v6 w6 h6 k6;replace h6:=hid h6;clear k6;go_wp2;go_ret;rw[E];exact HD.out _ _ _ (by simp) h6.out
 |false=>
  have hs:(x.max != most)=false:=hc;have E:(prA n i x).2=[[112,114,101,102,105,120,45,108,105,115,116],n,nthW i,yesW x.permit,pfxF x.pa x.pl]++optL (!(x.min==x.pl)) [[103,101],decI x.min]:=by rw[HT.out,hc];simp[optL]
  rw[hs];go_wp2;go_ret;rw[E];exact HD.out _ _ _ (by simp) HF.out
theorem aaccess_any(n:List UInt8)(i:Nat)(x:Ru)(w:World)(he:Env w)(hi:i≤100000)(hr:zCp x=true)(hf:x.fit) :
  Calls Tryz.prog 47 #[.string (str n),.int .i64 (i:Int),.agg x.C] w (WP (ruA n i x).2 w):=by
 obtain⟨k1,-,-,k4,k5⟩:=ru_ok hr;obtain⟨f1,f2,f3,f4⟩:=hf;have HT:Hid ((ruA n i x).2=[[97,99,99,101,115,115,45,108,105,115,116],n,nthW i,yesW x.permit,protA x.proto]++[wildT x.sa x.sm,wildT x.da x.dm]++zBu [102,114,111,109] x.slo x.shi++zBu [116,111] x.dlo x.dhi):=hid (by simp[ruA]);have HBX:Hid (∀W,Below (w.alloc (.cells x.C 103)).heap.size (w.alloc (.cells x.C 103)) W→Env W):=hid fun W hk=>(he.below (((Below.refl w.heap.size w).alloc (Nat.le_refl _) (.cells x.C 103)).trans (hk.mono (by show _≤(w.heap.push _).size;rw[Array.size_push];omega))))
 have HNX:=hid (HasC.new w 103 x.C);have HD:Hid (∀ws v w', 0<ws.length→WF 103 w.heap.size x.C ws v (w.alloc (.cells x.C 103)) w' → WP ws w (.returned v) w'):=hid fun ws v w' h0 h=>h.done h0
 clear he;go_enter Tryz.func47,Tryz.ntmps47;go_upto_region 1 with fail
 generalize w.alloc (.cells x.C 103)=w4 at HBX HNX HD⊢;generalize w.heap.size=gx at HNX HD⊢;have k1x:x.proto≤16777215:=by omega
 have HY:=hid (YA.one HNX.out);have HX:Hid (∀W,YA [(103,gx,x.C)] w4 W→W.cell? ⟨gx,0,none⟩=some (.bool x.permit)∧W.cell? ⟨gx,1,none⟩=some (.int .i64 x.proto)):=hid fun W hW=>⟨hW.a.cell 0,hW.a.cell 1⟩
 refine zEc (fun W=>YA [(103,gx,x.C)] w4 W) 9 (by kernel_rfl) (by kernel_rfl) (HY.out.drew) ?_
 repeat
  (first
   |(refine zCc (v:=?_) ?_ ?_ ?_;rotate_left;(· rfl);(· (intro W hW;obtain⟨c0,c1⟩:=HX.out W hW;go_simp<;>rfl)))
   |(refine zAq ?_ ?_ (fun W hW=>hW.call (aseq_any i hi W (HBX.out _ hW.b))) ?_;(· rfl);(· (intro W hW;go_simp<;>rfl)))
   |(refine zAq ?_ ?_ (fun W hW=>hW.call (zHx x.permit W)) ?_;(· rfl);(· (intro W hW;go_simp<;>rfl)))
   |(refine zAq ?_ ?_ (fun W hW=>hW.call (aprot_any x.proto k1.1 k1x W (HBX.out _ hW.b))) ?_;(· rfl);(· (intro W hW;go_simp<;>rfl))))
  simp only[Act.put,List.setIfInBounds_toArray,List.set_cons_zero,List.set_cons_succ]
 refine zCn ?_;intro wq hS;change wpList _ _ _ (_ :: _ :: []) _ _;have HS:=hid hS;clear hS HX;go_upto_region 2 with fail
 have HF:=hid (WF.new (ws:=[[97,99,99,101,115,115,45,108,105,115,116],n,nthW i,yesW x.permit,protA x.proto]) HS.out.a HS.out.b (by decide) (by simp));change Code.wp _ _ _ _ (wq.alloc (.cells (([[97,99,99,101,115,115,45,108,105,115,116],n,nthW i,yesW x.permit,protA x.proto]:List (List UInt8)).map strV).toArray 9));clear HY HS;generalize wq.alloc (.cells (([[97,99,99,101,115,115,45,108,105,115,116],n,nthW i,yesW x.permit,protA x.proto]:List (List UInt8)).map strV).toArray 9)=w5 at HF⊢;generalize wq.heap.size=bw at HF⊢;go_upto_region 2 with fail
 have HX:Hid (∀W,WF 103 gx x.C ([[97,99,99,101,115,115,45,108,105,115,116],n,nthW i,yesW x.permit,protA x.proto]) (.slice (some ⟨bw,0,none⟩) 5 5) w4 W→W.cell? ⟨gx,2,none⟩=some (.int .u32 (x.sa:Int))∧W.cell? ⟨gx,3,none⟩=some (.int .u32 (x.sm:Int))∧W.cell? ⟨gx,4,none⟩=some (.int .u32 (x.da:Int))∧W.cell? ⟨gx,5,none⟩=some (.int .u32 (x.dm:Int))):=hid fun W hW=>⟨hW.x.cell 2,hW.x.cell 3,hW.x.cell 4,hW.x.cell 5⟩
 refine zBt (fun W=>WF 103 gx x.C ([[97,99,99,101,115,115,45,108,105,115,116],n,nthW i,yesW x.permit,protA x.proto]) (.slice (some ⟨bw,0,none⟩) 5 5) w4 W) [1,2,3,4,5,6] [7,8,9] (by kernel_rfl) rfl (by kernel_rfl) (HF.out.drew) (fun _ _ _ h=>h) rfl (fun W=>by go_simp<;>rfl) ?_;simp only[opsAt,List.getElem?_toArray,List.getElem?_cons_zero,List.getElem?_cons_succ,Act.put,List.setIfInBounds_toArray]
 repeat
  (first
   |(refine zCc (v:=?_) ?_ ?_ ?_;rotate_left;(· rfl);(· (intro W hW;obtain⟨c0,c1,c2,c3⟩:=HX.out W hW;go_simp<;>rfl)))
   |(refine zAq ?_ ?_ (fun W hW=>hW.call (awild_any x.sa x.sm W f1 f2 (HBX.out _ hW.b))) ?_;(· rfl);(· (intro W hW;go_simp<;>rfl)))
   |(refine zAq ?_ ?_ (fun W hW=>hW.call (awild_any x.da x.dm W f3 f4 (HBX.out _ hW.b))) ?_;(· rfl);(· (intro W hW;go_simp<;>rfl))))
  simp only[Act.put]
 refine zCn ?_;intro wq hS;change wpList _ _ _ (_ :: _ :: _ :: []) _ _;have HS:=hid hS;clear hS HX;clear HF;go_wp2_with (at_builtin;refine zBb rfl _ _ rfl HS.out [wildT x.sa x.sm,wildT x.da x.dm] rfl rfl (by simp) ?_);intro v6 w6 h6 k6;replace h6:=hid h6;clear HS k6;go_upto_region 4 with fail
 have H5:Hid (WF 103 gx x.C ([[97,99,99,101,115,115,45,108,105,115,116],n,nthW i,yesW x.permit,protA x.proto]++[wildT x.sa x.sm,wildT x.da x.dm]) v6 w4 _∧HasC 101 w6.heap.size #[.int .i64 0,.int .i64 65535] _):=hid ⟨h6.out.below ((Below.refl w6.heap.size w6).alloc (Nat.le_refl _) (.cells #[.int .i64 0,.int .i64 65535] 101)),HasC.new w6 101 #[.int .i64 0,.int .i64 65535]⟩;clear h6;generalize w6.alloc (.cells #[.int .i64 0,.int .i64 65535] 101)=w5 at H5⊢;generalize w6.heap.size=gy at H5⊢;obtain⟨y0,y1⟩:=bl2 H5.out.2;have r1:∀w,(binOp .neq 101 (.agg #[.int .i64 x.slo,.int .i64 x.shi]) (.agg #[.int .i64 0,.int .i64 65535])).run Tryz.prog w=.ok (.bool (!(x.slo==0&&x.shi==65535))) w:=fun w=>rng_neq _ _ _ _ w
 have c6:w5.cell? ⟨gx,6,none⟩=some (.int .i64 x.slo):=H5.out.1.x.cell 6;have c7:w5.cell? ⟨gx,7,none⟩=some (.int .i64 x.shi):=H5.out.1.x.cell 7;go_upto_if 32 with fail
 go_cut [7] (fun v wx=>WF 103 gx x.C ([[97,99,99,101,115,115,45,108,105,115,116],n,nthW i,yesW x.permit,protA x.proto]++[wildT x.sa x.sm,wildT x.da x.dm]++zBu [102,114,111,109] x.slo x.shi) v w4 wx∧HasC 101 gy #[.int .i64 0,.int .i64 65535] wx)
 case first=>
  cases hc:(!(x.slo==0&&x.shi==65535))with
  |true=>
   have E:(zBu [102,114,111,109] x.slo x.shi:List (List UInt8))=[[102,114,111,109],portW x.slo x.shi]:=by rw[zBu,hc];rfl
   have hs:(!(x.slo==0) || !(x.shi==65535))=true:=by rw[←Bool.not_and];exact hc
   rw[hs];go_wp2_with fail;refine(aports_any x.slo x.shi _ k4.1 k4.2.1 k4.2.2 (HBX.out _ H5.out.1.b)).mono ?_;rintro e w1 ⟨rfl,hb⟩;have HG:=hid (And.intro (H5.out.1.below hb) (H5.out.2.keep hb));clear hb;go_wp2_with (at_builtin;refine zBb rfl _ _ rfl HG.out.1 [[102,114,111,109],portW x.slo x.shi] rfl rfl (Nat.le_trans (Nat.add_le_add (zCh (Nat.le_of_ble_eq_true rfl:_≤20) (Nat.le_of_ble_eq_true rfl:_≤20)) (Nat.le_of_ble_eq_true rfl:_≤20)) (Nat.le_of_ble_eq_true rfl)) ?_);intro v6 w6 h6 k6;replace h6:=hid (And.intro h6 (k6 _ _ _ (by decide) HG.out.2));clear k6;go_wp2;go_meet;rw[E];first|exact h6.out|simpa only[List.append_assoc,List.cons_append,List.nil_append] using h6.out
  |false=>
   have E:(zBu [102,114,111,109] x.slo x.shi:List (List UInt8))=[]:=by rw[zBu,hc];rfl
   have hs:(!(x.slo==0) || !(x.shi==65535))=false:=by rw[←Bool.not_and];exact hc
   rw[hs];go_wp2;go_meet;rw[E,List.append_nil];exact H5.out
 case rest=>
 clear H5 c6 c7 y0 y1 r1;have HF:=hid hcut;clear hcut;obtain⟨y0,y1⟩:=bl2 HF.out.2;have r1:∀w,(binOp .neq 101 (.agg #[.int .i64 x.dlo,.int .i64 x.dhi]) (.agg #[.int .i64 0,.int .i64 65535])).run Tryz.prog w=.ok (.bool (!(x.dlo==0&&x.dhi==65535))) w:=fun w=>rng_neq _ _ _ _ w
 have c8:wc.cell? ⟨gx,8,none⟩=some (.int .i64 x.dlo):=HF.out.1.x.cell 8;have c9:wc.cell? ⟨gx,9,none⟩=some (.int .i64 x.dhi):=HF.out.1.x.cell 9;go_upto_if 42 with fail
 cases hc:(!(x.dlo==0&&x.dhi==65535))with
 |true=>
  have hs:(!(x.dlo==0) || !(x.dhi==65535))=true:=by rw[←Bool.not_and];exact hc
  rw[hs];go_wp2_with fail;refine(aports_any x.dlo x.dhi _ k5.1 k5.2.1 k5.2.2 (HBX.out _ HF.out.1.b)).mono ?_;rintro e w1 ⟨rfl,hb⟩;have HG:=hid (And.intro (HF.out.1.below hb) (HF.out.2.keep hb));clear hb;go_wp2_with (at_builtin;refine zBb rfl _ _ rfl HG.out.1 [[116,111],portW x.dlo x.dhi] rfl rfl (Nat.le_trans (Nat.add_le_add (zCh (zCh (Nat.le_of_ble_eq_true rfl:_≤20) (Nat.le_of_ble_eq_true rfl:_≤20)) (zDd (Nat.le_of_ble_eq_true rfl))) (Nat.le_of_ble_eq_true rfl:_≤20)) (Nat.le_of_ble_eq_true rfl)) ?_);intro v6 w6 h6 k6;replace h6:=hid (And.intro h6 (k6 _ _ _ (by decide) HG.out.2));clear k6;go_wp2;go_ret;rw[HT.out,show zBu [116,111] x.dlo x.dhi=[[116,111],portW x.dlo x.dhi] by rw[zBu,hc];rfl];exact HD.out _ _ _ (by simp) h6.out.1
 |false=>
  have hs:(!(x.dlo==0) || !(x.dhi==65535))=false:=by rw[←Bool.not_and];exact hc
  rw[hs];go_wp2;go_ret;rw[HT.out,show zBu [116,111] x.dlo x.dhi=[] by rw[zBu,hc];rfl,List.append_nil];exact HD.out _ _ _ (by simp) HF.out.1
end Go.Proofs.YthcnojmldldpeaaGreatDoor
