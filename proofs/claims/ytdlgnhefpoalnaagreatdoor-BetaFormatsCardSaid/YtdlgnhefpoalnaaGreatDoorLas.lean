/- Beta's Format: its walk. No condition. -/
import Derived.Test.YtdlgnhefpoalnaaGreatDoorLar
set_option maxHeartbeats 8000000
set_option maxRecDepth 100000
namespace Go.Proofs.YtdlgnhefpoalnaaGreatDoor
open Lib (hid)
open Go.RowKit
theorem FK.over{g bw:Nat}{w0 w w' : World}(h:FK g w0 w)(hg:w.grownBy w' (some bw))(hb:w0.heap.size≤bw):FK g w0 w' :=
 have hr:∀k,k<w0.heap.size→some k≠some bw:=fun k hk e=>by cases e;omega
 ⟨hg.os.trans h.os,hg.tape.trans h.tape,hg.output.trans h.output,yJ h.size hg.size,fun k hk hl=>(hg.block k (Nat.lt_of_lt_of_le hk h.size) (hr k hk)).trans (h.low k hk hl),
  fun k hk hn hc=>(hg.block k (Nat.lt_of_lt_of_le hk h.size) (hr k hk)).trans (h.high k hk hn hc)⟩
theorem XT.grown{T:TypeId}{gx g d bw:Nat}{cs ds:Array Value}{s:List UInt8}{w0 w w' : World}(h:XT T gx cs g d s w0 w)(hs:HasC 9 bw ds w)(hg:w.grownBy w' (some bw))(hb:w0.heap.size≤bw)(hx:bw≠gx):XT T gx cs g d s w0 w' := by
 obtain⟨⟨p,v,hp,hc,ho⟩,h2,h3,h4,h5⟩:=h
 have hbg:g≠bw:=fun e=>by
  subst e;have:=hc.symm.trans hs;injection this with this
  injection this with _ this _
  exact absurd this (by decide)
 exact⟨⟨p,v,hp,hc.grown hg (fun e=>hbg (by cases e;rfl)),ho.kept hg (Or.inr (Lib.ownBlock_ne ho hs (by decide)))⟩,h2.grown hg (fun e=>hx (by cases e;rfl)),h3.over hg hb,h4,h5⟩
theorem SlS.own{g base:Nat}{v:Value}{ws:List (List UInt8)}{w:World}(h:w.ownsRow base 9 1 v ws.length (ws.map strV))(hn:0<ws.length)(hb:g<base):SlS g v ws w:=by
 rcases h.2 with⟨_,h0⟩|⟨b,cap,cur,hv,hB,hh,hc,_,hs,ht⟩
 ·omega
 ·refine Or.inr ⟨b,cap,cur,hv,hc,by omega,hh,fun j x hx=>?_⟩
  have h1:(ws.map strV)[j]? = some (strV x):=by rw[List.getElem?_map,hx];rfl
  rw[←ht,List.getElem?_take]at h1;split at h1
  ·rw[←Array.getElem?_toList];exact h1
  ·cases h1
theorem own_words{bw:Nat}{ws:List (List UInt8)}{w:World}(h:HasC 9 bw (ws.map strV).toArray w)(hn:ws.length≤1000):w.ownsRow bw 9 1 (.slice (some ⟨bw,0,none⟩) ws.length ws.length) ws.length (ws.map strV) :=
 ⟨by simp,Or.inr ⟨bw,ws.length,_,rfl,yI _,h,yI _,by unfold maxLen;omega,by simp,by rw[Nat.mul_one];exact List.take_of_length_le (by simp)⟩⟩
theorem fprefix_any(g d:Nat)(s:List UInt8)(x:PRule)(w:World)(h:TX g d s w)(he:EnvA g w)(hr:zFa x=true)(hf:x.fit)(hl:s.length+(textN d (prN x)).length≤140737488355328) :
  Calls Tryz.prog 103 #[.pointer (some ⟨g,0,none⟩),.agg x.C] w (TP g d s (textN d (prN x)) w):=by
 obtain⟨hv,k1,k2,k3⟩:=pr_ok hr;have k0:=(validP_in hv).1;have HL:=hid hl;clear hl hv hr;obtain⟨i0,hi,hz0,hz1,hz2⟩:=info_parts Tryz.strInfo;have hg0:=hid h.lt;have hg:=h.lt;have HE:Hid (∀W,FK g w W→Env W):=hid fun W hk=>(he.keep (hk.below (Nat.le_of_lt hg))).1
 have H:=hid (XT.new (T:=136) (cs:=x.C) h (FK.refl g w) (by decide));clear h he hg;go_enter Tryz.func103,Tryz.ntmps103;go_upto_region 1 with fail
 generalize w.alloc (.cells x.C 136)=wc at H⊢;generalize w.heap.size=gx at H⊢;obtain⟨-,c1,c2⟩:=bl3 H.out.x;go_wp2_with fail;refine(zBo x.pa x.pl _ hf (HE.out _ H.out.k)).mono ?_;rintro e w1 ⟨rfl,hb⟩;have H1:=hid (H.out.below hb);clear hb c1 c2 H;go_upto_region 2 with fail
 have hb:=(Below.refl w1.heap.size w1).alloc (yI _) (.cells ([[100,101,110,121],pfxF x.pa x.pl].map strV).toArray 9);have H5:=hid (And.intro (H1.out.below hb) (HasC.new w1 9 ([[100,101,110,121],pfxF x.pa x.pl].map strV).toArray));have hbw:Hid (w1.heap.size≠gx∧w.heap.size≤w1.heap.size):=hid ⟨by have:=zBj H1.out.x;omega,H1.out.k.size⟩;change Code.wp _ _ _ _ (w1.alloc (.cells ([[100,101,110,121],pfxF x.pa x.pl].map strV).toArray 9));clear hb H1;generalize w1.alloc (.cells ([[100,101,110,121],pfxF x.pa x.pl].map strV).toArray 9)=w5 at H5⊢;generalize w1.heap.size=bw at H5 hbw⊢;have c0:=cl0 H5.out.1.x;have hw:Hid (∀a b W,HasC 9 bw (([a,b]:List (List UInt8)).map strV).toArray W→W.cell? ⟨bw,0,none⟩=some (strV a)∧W.frozen? ⟨bw,0,none⟩=false):=hid fun a b W h=>⟨h.cell 0,h.frz 0⟩
 go_upto_if 11 with fail
 go_cut [] (fun wx=>XT 136 gx x.C g d s w wx∧HasC 9 bw ([if x.permit then [112,101,114,109,105,116]else [100,101,110,121],pfxF x.pa x.pl].map strV).toArray wx)
 case first=>
  cases hc:x.permit with
  |true=>
   rw[hc]at c0;obtain⟨y0,y1⟩:=hw.out _ _ _ H5.out.2;go_wp2;go_meet;rw[hc];exact⟨H5.out.1.grown H5.out.2 (zBb _ _ _ _) hbw.out.2 hbw.out.1,H5.out.2.set 0 (strV [112,101,114,109,105,116])⟩
  |false=>
   rw[hc]at c0;go_wp2;go_meet;rw[hc];exact H5.out
 case rest=>
 clear H5 c0 hw;have H:=hid hcut;clear hcut;obtain⟨-,-,c2,c3,c4⟩:=bl5 H.out.1.x;generalize hW:(if x.permit then([112,101,114,109,105,116]:List UInt8)else [100,101,110,121])=W0 at H;have hgb:Hid (g<bw):=hid (by have:=hbw.out.2;have:=hg0.out;omega);go_upto_block 0 with fail
 go_cut [4] (fun v wx=>XT 136 gx x.C g d s w wx∧SlS g v (W0 :: pfxF x.pa x.pl :: zDp x) wx)
 case first=>
  have HO:Hid (∀W,(XT 136 gx x.C g d s w W∧HasC 9 bw ([W0,pfxF x.pa x.pl].map strV).toArray W)→W.ownsRow bw 9 1 (.slice (some ⟨bw,0,none⟩) 2 2) 2 [strV W0,strV (pfxF x.pa x.pl)]):=hid fun W h=>own_words h.2 (by simp)
  have HM:Hid (∀(ws:List (List UInt8)) v w1 w2,(XT 136 gx x.C g d s w w1∧HasC 9 bw ([W0,pfxF x.pa x.pl].map strV).toArray w1)→w2.ownsRow bw 9 1 v (2+ws.length) ([strV W0,strV (pfxF x.pa x.pl)]++ws.map strV)→w1.grownBy w2 (some bw)→XT 136 gx x.C g d s w w2∧SlS g v (W0 :: pfxF x.pa x.pl :: ws) w2):=hid fun ws v w1 w2 h h1 h2=>⟨h.1.grown h.2 h2 hbw.out.2 hbw.out.1,SlS.own (by rw[show(W0 :: pfxF x.pa x.pl :: ws).length=2+ws.length by simp only[yG];omega];exact h1) (by simp) hgb.out⟩
  have HA:Hid (∀W W', (XT 136 gx x.C g d s w W∧HasC 9 bw ([W0,pfxF x.pa x.pl].map strV).toArray W)→Below W.heap.size W W' → (XT 136 gx x.C g d s w W' ∧ HasC 9 bw ([W0,pfxF x.pa x.pl].map strV).toArray W')):=hid fun W W' h hb=>⟨h.1.below hb,h.2.keep hb⟩
  have HZ:Hid (∀W,(XT 136 gx x.C g d s w W∧HasC 9 bw ([W0,pfxF x.pa x.pl].map strV).toArray W)→bw≤W.heap.size):=hid fun W h=>Nat.le_of_lt (zBj h.2)
  by_cases e1:x.min=x.pl
  ·have d1:(x.min==x.pl)=true:=by simpa using e1
   by_cases e2:x.max=x.pl
   ·have d2:(x.max==x.pl)=true:=by simpa using e2
    have E:Hid (zDp x=[[101,120,97,99,116]]):=hid (by unfold zDp;rw[d1,d2];rfl);clear e1 e2;have hA:=HA.out _ _ H.out ((Below.refl wc.heap.size wc).alloc (yI _) (.cells ([[101,120,97,99,116]].map strV).toArray 9));have hO:=HO.out _ hA;have hZ:=HZ.out _ hA;replace hA:=hid hA;go_wp2_with (at_builtin;refine wpList_append_own _ rfl _ _ 52 rfl bw 9 i0 (.string ⟨#[]⟩) 1 16 Tryz.underlying52 hi hz0 hz1 hz2 rfl (by decide) _ _ _ rfl hO ⟨wc.heap.size,0,none⟩ 1 1 [strV ([101,120,97,99,116])] rfl rfl ?c1 ?c2 ?c3 ?c4 ?c5 ?_);case c1=>intro j u hj;rw[show(⟨wc.heap.size,0,none⟩:Addr).add j=⟨wc.heap.size,j,none⟩from(zJb _ 0 j).trans (by rw[Nat.zero_add])];exact((HasC.new wc 9 ([[101,120,97,99,116]].map strV).toArray).cell j).trans (by rw[List.getElem?_toArray];exact hj)
    case c2=>intro u hu;simp only[List.mem_cons,List.not_mem_nil,or_false]at hu;rcases hu with rfl<;>rfl
    case c3=>unfold maxLen;omega
    case c4=>omega
    case c5=>exact hZ
    intro v' w2 hown' hgrow _;have R:=hid (HM.out [[101,120,97,99,116]] _ _ _ hA.out hown' hgrow);clear hown' hgrow hO hZ;go_wp2;go_meet;rw[E.out];exact R.out
   have d2:(x.max==x.pl)=false:=by simpa using e2
   by_cases e3:x.max=32
   ·have d3:(x.max==32)=true:=by simpa using e3
    have E:Hid (zDp x=[[111,114,108,111,110,103,101,114]]):=hid (by unfold zDp;rw[d1,d2,d3];rfl);clear e1 e2 e3;have hA:=HA.out _ _ H.out ((Below.refl wc.heap.size wc).alloc (yI _) (.cells ([[111,114,108,111,110,103,101,114]].map strV).toArray 9));have hO:=HO.out _ hA;have hZ:=HZ.out _ hA;replace hA:=hid hA;go_wp2_with (at_builtin;refine wpList_append_own _ rfl _ _ 52 rfl bw 9 i0 (.string ⟨#[]⟩) 1 16 Tryz.underlying52 hi hz0 hz1 hz2 rfl (by decide) _ _ _ rfl hO ⟨wc.heap.size,0,none⟩ 1 1 [strV ([111,114,108,111,110,103,101,114])] rfl rfl ?c1 ?c2 ?c3 ?c4 ?c5 ?_);case c1=>intro j u hj;rw[show(⟨wc.heap.size,0,none⟩:Addr).add j=⟨wc.heap.size,j,none⟩from(zJb _ 0 j).trans (by rw[Nat.zero_add])];exact((HasC.new wc 9 ([[111,114,108,111,110,103,101,114]].map strV).toArray).cell j).trans (by rw[List.getElem?_toArray];exact hj)
    case c2=>intro u hu;simp only[List.mem_cons,List.not_mem_nil,or_false]at hu;rcases hu with rfl<;>rfl
    case c3=>unfold maxLen;omega
    case c4=>omega
    case c5=>exact hZ
    intro v' w2 hown' hgrow _;have R:=hid (HM.out [[111,114,108,111,110,103,101,114]] _ _ _ hA.out hown' hgrow);clear hown' hgrow hO hZ;go_wp2;go_meet;rw[E.out];exact R.out
   have d3:(x.max==32)=false:=by simpa using e3
   have E:Hid (zDp x=[[117,112,116,111],decI x.max]):=hid (by unfold zDp;rw[d1,d2,d3];rfl);clear e1 e2 e3;go_wp2_with fail;refine(zCc x.max (by omega) (by omega) _ (HE.out _ H.out.1.k)).mono ?_;rintro e w1 ⟨rfl,hb⟩;replace H:=hid (HA.out _ _ H.out hb);clear hb c2 c3 c4;have hA:=HA.out _ _ H.out ((Below.refl w1.heap.size w1).alloc (yI _) (.cells ([[117,112,116,111],decI x.max].map strV).toArray 9));have hO:=HO.out _ hA;have hZ:=HZ.out _ hA;replace hA:=hid hA;go_wp2_with (at_builtin;refine wpList_append_own _ rfl _ _ 52 rfl bw 9 i0 (.string ⟨#[]⟩) 1 16 Tryz.underlying52 hi hz0 hz1 hz2 rfl (by decide) _ _ _ rfl hO ⟨w1.heap.size,0,none⟩ 2 2 [strV ([117,112,116,111]),strV (decI x.max)] rfl rfl ?c1 ?c2 ?c3 ?c4 ?c5 ?_);case c1=>intro j u hj;rw[show(⟨w1.heap.size,0,none⟩:Addr).add j=⟨w1.heap.size,j,none⟩from(zJb _ 0 j).trans (by rw[Nat.zero_add])];exact((HasC.new w1 9 ([[117,112,116,111],decI x.max].map strV).toArray).cell j).trans (by rw[List.getElem?_toArray];exact hj)
   case c2=>intro u hu;simp only[List.mem_cons,List.not_mem_nil,or_false]at hu;rcases hu with rfl|rfl<;>rfl
   case c3=>unfold maxLen;omega
   case c4=>omega
   case c5=>exact hZ
   intro v' w2 hown' hgrow _;have R:=hid (HM.out [[117,112,116,111],decI x.max] _ _ _ hA.out hown' hgrow);clear hown' hgrow hO hZ;go_wp2;go_meet;rw[E.out];exact R.out
  have d1:(x.min==x.pl)=false:=by simpa using e1
  have E:Hid (zDp x=[[114,97,110,103,101],decI x.min,decI x.max]):=hid (by unfold zDp;rw[d1];rfl);clear e1;go_upto_region 5 with fail
  have HX:Hid (∀W,(XT 136 gx x.C g d s w W∧HasC 9 bw ([W0,pfxF x.pa x.pl].map strV).toArray W)→W.cell? ⟨gx,3,none⟩=some (.int .i64 x.min)∧W.cell? ⟨gx,4,none⟩=some (.int .i64 x.max)):=hid fun W hW=>⟨hW.1.x.cell 3,hW.1.x.cell 4⟩
  have Q:Hid (∀n:Int,0≤n→n≤32→∀W,(XT 136 gx x.C g d s w W∧HasC 9 bw ([W0,pfxF x.pa x.pl].map strV).toArray W)→Calls Tryz.prog 29 #[.int .i64 n] W fun e w' => e=.returned (.string (str (decI n)))∧XT 136 gx x.C g d s w w' ∧ HasC 9 bw ([W0,pfxF x.pa x.pl].map strV).toArray w'):=hid fun n h0 h1 W hW=>(zCc n h0 (by omega) W (HE.out _ hW.1.k)).mono fun e w' ⟨he,hk⟩=>⟨he,HA.out _ _ hW hk⟩
  have Q0:=hid (Q.out x.min (by omega) (by omega));have Q1:=hid (Q.out x.max (by omega) (by omega));clear c2 c3 c4 Q;refine zCm (fun W=>XT 136 gx x.C g d s w W∧HasC 9 bw ([W0,pfxF x.pa x.pl].map strV).toArray W) [1,2,3,4,5,6] [7,8,9] (by kernel_rfl) rfl (by kernel_rfl) (HA.out _ _ H.out (zAo _)) (fun _ _ _ h=>h) rfl (fun W=>by go_simp<;>rfl) ?_;simp only[opsAt,List.getElem?_toArray,List.getElem?_cons_zero,List.getElem?_cons_succ,Act.put,yB]
  repeat
   (first
    |(refine zBq (v:=?_) ?_ ?_ ?_;rotate_left;(· rfl);(· (intro W hW;obtain⟨c3,c4⟩:=HX.out W hW;go_simp<;>rfl)))
    |(refine zAm ?_ ?_ Q0.out ?_;(· rfl);(· (intro W hW;go_simp<;>rfl)))
    |(refine zAm ?_ ?_ Q1.out ?_;(· rfl);(· (intro W hW;go_simp<;>rfl))))
   simp only[Act.put]
  refine zCg ?_;intro w1 hS;change wpList _ _ _ (_ :: _ :: _ :: []) _ _;replace H:=hid hS;clear hS HX Q0 Q1;have hA:=HA.out _ _ H.out ((Below.refl w1.heap.size w1).alloc (yI _) (.cells ([[114,97,110,103,101],decI x.min,decI x.max].map strV).toArray 9));have hO:=HO.out _ hA;have hZ:=HZ.out _ hA;replace hA:=hid hA;go_wp2_with (at_builtin;refine wpList_append_own _ rfl _ _ 52 rfl bw 9 i0 (.string ⟨#[]⟩) 1 16 Tryz.underlying52 hi hz0 hz1 hz2 rfl (by decide) _ _ _ rfl hO ⟨w1.heap.size,0,none⟩ 3 3 [strV ([114,97,110,103,101]),strV (decI x.min),strV (decI x.max)] rfl rfl ?c1 ?c2 ?c3 ?c4 ?c5 ?_);case c1=>intro j u hj;rw[show(⟨w1.heap.size,0,none⟩:Addr).add j=⟨w1.heap.size,j,none⟩from(zJb _ 0 j).trans (by rw[Nat.zero_add])];exact((HasC.new w1 9 ([[114,97,110,103,101],decI x.min,decI x.max].map strV).toArray).cell j).trans (by rw[List.getElem?_toArray];exact hj)
  case c2=>intro u hu;simp only[List.mem_cons,List.not_mem_nil,or_false]at hu;rcases hu with rfl|rfl|rfl<;>rfl
  case c3=>unfold maxLen;omega
  case c4=>omega
  case c5=>exact hZ
  intro v' w2 hown' hgrow _;have R:=hid (HM.out [[114,97,110,103,101],decI x.min,decI x.max] _ _ _ hA.out hown' hgrow);clear hown' hgrow hO hZ;go_wp2;go_meet;rw[E.out];exact R.out
 case rest=>
 have H2:=hid hcut;clear hcut c2 c3 c4 H;have E:Hid (textN d (prN x)=lineW d (W0 :: pfxF x.pa x.pl :: zDp x) [59]):=hid (by rw[prN,zAn,hW]);have hn:Hid ((W0 :: pfxF x.pa x.pl :: zDp x).length≤1000):=hid (by unfold zDp;(repeat' split)<;>simp);rw[E.out]at HL;go_wp2_with fail;refine(put_any g d s _ _ _ H2.out.1.t H2.out.2 hn.out HL.out).mono ?_;rintro e w2 ⟨rfl,h2,k2⟩;have R:=hid (And.intro h2 (H2.out.1.k.trans k2));clear h2 k2;go_wp2_with fail;go_end0;exact⟨rfl,by rw[E.out];exact R.out.1,R.out.2⟩
theorem flists_any(g d:Nat)(s:List UInt8)(r:Rt)(w:World)(B:Nat)(h:TX g d s w)(he:EnvA g w)(hB:B≤g)(hr:r.at w B)(h1:∀x∈r.lists,∀y∈x.rules,zFa y=true∧y.fit)(h2:∀x∈r.maps,∀y∈x.clauses,zDg y=true)(h3:∀x∈r.acls,∀y∈x.rules,zDl y=true∧y.fit)
  (hl:(s++(textL d (r.lists.map listN)++(textL d (r.maps.map mapN)++textL d (r.acls.map aclN)))).length≤140737488355328) :
  Calls Tryz.prog 32 #[.pointer (some ⟨g,0,none⟩),.agg r.C] w (TP g d s (textL d (r.lists.map listN)++(textL d (r.maps.map mapN)++textL d (r.acls.map aclN))) w):=by
 have HL:=hid hl;have hg:=hid h.lt;have HEA:Hid (∀W,FK g w W→EnvA g W):=hid fun W hk=>he.keep (hk.below (Nat.le_of_lt hg.out))
 replace hB:=hid hB;have H:=hid (XT.new (T:=41) (cs:=r.C) h (FK.refl g w) (by decide));have HV0:=hid hr.hlists;have hn0:r.lists.length≤9223372036854775807:=by have:=hr.hlists.len;unfold maxLen at this;omega
 obtain⟨A0,c0,hve0,-,-⟩:=hr.hlists;rw[hve0]at HV0;have HQ0:=hid fun x hx=>And.intro (hr.nlists x hx) (h1 x hx)
 have HV1:=hid hr.hmaps;have hn1:r.maps.length≤9223372036854775807:=by have:=hr.hmaps.len;unfold maxLen at this;omega
 obtain⟨A1,c1,hve1,-,-⟩:=hr.hmaps;rw[hve1]at HV1;have HQ1:=hid fun x hx=>And.intro (hr.nmaps x hx) (h2 x hx)
 have HV2:=hid hr.hacls;have hn2:r.acls.length≤9223372036854775807:=by have:=hr.hacls.len;unfold maxLen at this;omega
 obtain⟨A2,c2,hve2,-,-⟩:=hr.hacls;rw[hve2]at HV2;have HQ2:=hid fun x hx=>And.intro (hr.nacls x hx) (h3 x hx)
 clear hl h he hr h1 h2 h3;go_enter Tryz.func32,Tryz.ntmps32;go_upto_region 1 with fail
 generalize w.alloc (.cells r.C 41)=wc at H⊢;generalize w.heap.size=gy at H⊢;obtain⟨cl,hcl⟩:∃cl,cl=r.C:=⟨_,rfl⟩;rw[←hcl]at H;have C3:Hid (cl[3]? = some (.slice A0 r.lists.length c0)):=hid (by rw[hcl,←hve0];rfl);have C4:Hid (cl[4]? = some (.slice A1 r.maps.length c1)):=hid (by rw[hcl,←hve1];rfl);have C5:Hid (cl[5]? = some (.slice A2 r.acls.length c2)):=hid (by rw[hcl,←hve2];rfl);clear hcl hve0 hve1 hve2;have c3:wc.cell? ⟨gy,3,none⟩=some (.slice A0 r.lists.length c0):=(H.out.x.cell 3).trans C3.out;go_upto_block 0 with fail
 go_cut [] (fun wx=>XT 41 gy cl g d (s++textL d (r.lists.map listN)) w wx)
 case first=>
  have hgy:=hid H.out.hg;go_wp2;go_loopg [19] r.lists.length (fun gh ix wr=>∃k:Nat,k+gh=r.lists.length∧ix=.int .i64 k∧Hid ((TX g d (s++textL d ((r.lists.take k).map listN)) wr∧FK g w wr)∧HasC 41 gy cl wr));case atStart=>exact⟨0,by omega,rfl,hid ⟨⟨by rw[List.take_zero,List.map_nil,textL,yF];exact H.out.t,H.out.k⟩,H.out.x⟩⟩
  case round=>
   obtain⟨k,hk,rfl,HR⟩:=hrel;by_cases hlt:k<r.lists.length;case neg=>
    have hkz:¬((k:Int)<(r.lists.length:Int)):=by omega
    have E:=zBc d listN hlt;go_wp2;go_meet;rw[←E];exact⟨HR.out.1.1,HR.out.2,HR.out.1.2,hgy.out,by decide⟩
   have hkz:(k:Int)<(r.lists.length:Int):=by omega
   obtain⟨gr,o,c', e',-,hgr,R0⟩:=SlV.elem (n:=2) (by decide) (fun _=>rfl) HV0.out hlt;injection e' with e1 e2 e3
   subst e1 e3;have r1:=hid (zAg R0 ((HR.out.1.2.below (Nat.le_of_lt hg.out)).mono hB.out) hgr);clear R0 e2;have HX:=hid (HQ0.out _ (List.getElem_mem hlt));have ET:=hid (zAu d listN hlt);have HP:=hid (zAy d listN hlt);generalize r.lists[k]=x at HX ET HP r1;go_upto_region 4 with(first|(refine zAa rfl 81 _ rfl rfl r1.out Tryz.rowPList Tryz.sizePList ?_)|(refine zAd rfl 81 _ _ rfl rfl rfl (HasC.new wr _ _) rfl Tryz.sizePList (PList.one x (SlV.one HX.out.1)) ?_;intro w4 hz1 hz2))
   obtain⟨p,hp⟩:∃zz,zz=s++textL d ((r.lists.take k).map listN):=⟨_,rfl⟩;have hb:=zAi hz2;have H4:Hid (XT 81 wr.heap.size x.C g d p w w4∧HasC 41 gy cl w4):=hid ⟨⟨by rw[hp];exact HR.out.1.1.keep hb,hz1,HR.out.1.2.trans (.of_below hb),by have:=HR.out.1.1.lt;omega,by decide⟩,HR.out.2.keep hb⟩;have HN:Hid (textN d (listN x)=lineW d [[112,114,101,102,105,120,45,108,105,115,116],x.name] [32,123]++textL (d+1) (x.rules.map prN)++lineW d [] [125]):=hid (by rw[listN,zBm]);have HM:Hid (p.length+(lineW d [[112,114,101,102,105,120,45,108,105,115,116],x.name] [32,123]++textL (d+1) (x.rules.map prN)++lineW d [] [125]).length≤140737488355328):=hid (by rw[←HN.out,hp,yA];have h1:=HL.out;have h2:=HP.out;simp only[yA]at h1⊢;omega);clear hz1 hz2 r1 HR hb HP;generalize wr.heap.size=gx at H4⊢;obtain⟨hat,hy⟩:=HX.out;replace hy:=hid hy;have HVI:=hid hat;have hni:x.rules.length≤9223372036854775807:=by have:=SlV.len hat;unfold maxLen at this;omega
   obtain⟨AI,cI,hvi,-,-⟩:=hat;have HVJ:Hid (SlV w B 5 PRule.C (.slice AI x.rules.length cI) x.rules):=hid (by have:=HVI.out;unfold PList.at at this;rwa [hvi]at this);clear HVI HX;have c0:w4.cell? ⟨gx,0,none⟩=some (.string (str x.name)):=H4.out.1.x.cell 0;go_wp2_with fail;refine(zEn H4.out.1 [[112,114,101,102,105,120,45,108,105,115,116],x.name] (by simp) (by have:=HM.out;simp only[yA]at this⊢;omega)).mono ?_;rintro e w5 ⟨rfl,h2,k2⟩;have H5:=hid (And.intro h2 (H4.out.2.fk k2 hgy.out (by decide)));clear h2 k2;clear H4 c0;have ci:w5.cell? ⟨gx,1,none⟩=some (.slice AI x.rules.length cI):=by rw[←hvi];exact H5.out.1.x.cell 1
   clear hvi;have HR5:Hid (XT 41 gy cl g (d+1) (p++lineW d [[112,114,101,102,105,120,45,108,105,115,116],x.name] [32,123]) w w5):=hid ⟨H5.out.1.t,H5.out.2,H5.out.1.k,hgy.out,by decide⟩;clear H5;go_upto_block 2 with fail
   go_cut [] (fun wx=>XT 41 gy cl g (d+1) (p++lineW d [[112,114,101,102,105,120,45,108,105,115,116],x.name] [32,123]++textL (d+1) (x.rules.map prN)) w wx)
   case first=>
    have hgy:=hid HR5.out.hg;go_wp2;go_loopg [31] x.rules.length (fun gh ix wr=>∃j:Nat,j+gh=x.rules.length∧ix=.int .i64 j∧Hid ((TX g (d+1) (p++lineW d [[112,114,101,102,105,120,45,108,105,115,116],x.name] [32,123]++textL (d+1) ((x.rules.take j).map prN)) wr∧FK g w wr)∧HasC 41 gy cl wr));case atStart=>exact⟨0,by omega,rfl,hid ⟨⟨by rw[List.take_zero,List.map_nil,textL,yF];exact HR5.out.t,HR5.out.k⟩,HR5.out.x⟩⟩
    case round=>
     obtain⟨j,hk,rfl,HR⟩:=hrel;by_cases hlt:j<x.rules.length;case neg=>
      have hkz:¬((j:Int)<(x.rules.length:Int)):=by omega
      have E:=zBc (d+1) prN hlt;go_wp2;go_meet;rw[←E];exact⟨HR.out.1.1,HR.out.2,HR.out.1.2,hgy.out,by decide⟩
     have hkz:(j:Int)<(x.rules.length:Int):=by omega
     obtain⟨gr,o,c', e',-,hgr,R0⟩:=SlV.elem (n:=5) (by decide) (fun _=>rfl) HVJ.out hlt;injection e' with e1 e2 e3
     subst e1 e3;have r1:=hid (zAg R0 ((HR.out.1.2.below (Nat.le_of_lt hg.out)).mono hB.out) hgr);clear R0 e2;have HX:=hid (hy.out _ (List.getElem_mem hlt));have ET:=hid (zAu (d+1) prN hlt);have HP:=hid (zAy (d+1) prN hlt);generalize x.rules[j]=y at HX ET HP r1;go_upto_region 8 with(first|(refine zAa rfl 136 _ rfl rfl r1.out Tryz.rowPRule Tryz.sizePRule ?_)|(refine zAd rfl 136 _ _ rfl rfl rfl (HasC.new wr _ _) rfl Tryz.sizePRule (PRule.one y) ?_;intro w4 hz1 hz2))
     obtain⟨q,hp⟩:∃zz,zz=p++lineW d [[112,114,101,102,105,120,45,108,105,115,116],x.name] [32,123]++textL (d+1) ((x.rules.take j).map prN):=⟨_,rfl⟩;have hb:=zAi hz2;have H4:Hid (XT 136 wr.heap.size y.C g (d+1) q w w4∧HasC 41 gy cl w4):=hid ⟨⟨by rw[hp];exact HR.out.1.1.keep hb,hz1,HR.out.1.2.trans (.of_below hb),by have:=HR.out.1.1.lt;omega,by decide⟩,HR.out.2.keep hb⟩;have HM:Hid (q.length+(textN (d+1) (prN y)).length≤140737488355328):=hid (by rw[hp,yA];have h1:=HM.out;have h2:_+(textN (d+1) (prN y)).length≤_:=HP.out;simp only[yA]at h1⊢;omega);clear hz1 hz2 r1 HR hb HP;generalize wr.heap.size=gz at H4⊢;obtain⟨hry,hfy⟩:=HX.out;have hra:=H4.out.1.x.range;go_wp2_with (first|(refine zAa rfl 136 _ rfl rfl hra Tryz.rowPRule Tryz.sizePRule ?_));refine(fprefix_any g (d+1) q y _ H4.out.1.t (HEA.out _ H4.out.1.k) hry hfy HM.out).mono ?_;rintro e w6 ⟨rfl,h2,k2⟩;have H6:=hid (And.intro (H4.out.1.go h2 k2) (H4.out.2.fk k2 hgy.out (by decide)));clear h2 k2 H4 hra;go_wp2;go_roundg (x.rules.length - (j+1));case measure=>omega
     case rel=>
      refine⟨j+1,by omega,by go_num,hid ⟨⟨?_,H6.out.1.k⟩,H6.out.2⟩⟩;have:=H6.out.1.t;rw[hp]at this;rw[ET.out];simpa only[yE] using this
   case rest=>
   clear HR5;have H:=hid hcut;clear hcut;clear ci;go_wp2_with fail;refine(zFp H.out (by have:=HM.out;simp only[yA]at this⊢;omega)).mono ?_;rintro e w7 ⟨rfl,h2,k2⟩;have H7:=hid h2;clear h2 k2;clear H;go_wp2;go_roundg (r.lists.length - (k+1));case measure=>omega
   case rel=>
    refine⟨k+1,by omega,by go_num,hid ⟨⟨?_,H7.out.k⟩,H7.out.x⟩⟩;have:=H7.out.t;rw[hp]at this;rw[ET.out,HN.out];simpa only[yE] using this
 case rest=>
 clear H;have H:=hid hcut;clear hcut;clear c3;have c4:wc.cell? ⟨gy,4,none⟩=some (.slice A1 r.maps.length c1):=(H.out.x.cell 4).trans C4.out;go_upto_block 4 with fail
 go_cut [] (fun wx=>XT 41 gy cl g d (s++textL d (r.lists.map listN)++textL d (r.maps.map mapN)) w wx)
 case first=>
  have hgy:=hid H.out.hg;go_wp2;go_loopg [45] r.maps.length (fun gh ix wr=>∃k:Nat,k+gh=r.maps.length∧ix=.int .i64 k∧Hid ((TX g d (s++textL d (r.lists.map listN)++textL d ((r.maps.take k).map mapN)) wr∧FK g w wr)∧HasC 41 gy cl wr));case atStart=>exact⟨0,by omega,rfl,hid ⟨⟨by rw[List.take_zero,List.map_nil,textL,yF];exact H.out.t,H.out.k⟩,H.out.x⟩⟩
  case round=>
   obtain⟨k,hk,rfl,HR⟩:=hrel;by_cases hlt:k<r.maps.length;case neg=>
    have hkz:¬((k:Int)<(r.maps.length:Int)):=by omega
    have E:=zBc d mapN hlt;go_wp2;go_meet;rw[←E];exact⟨HR.out.1.1,HR.out.2,HR.out.1.2,hgy.out,by decide⟩
   have hkz:(k:Int)<(r.maps.length:Int):=by omega
   obtain⟨gr,o,c', e',-,hgr,R0⟩:=SlV.elem (n:=2) (by decide) (fun _=>rfl) HV1.out hlt;injection e' with e1 e2 e3
   subst e1 e3;have r1:=hid (zAg R0 ((HR.out.1.2.below (Nat.le_of_lt hg.out)).mono hB.out) hgr);clear R0 e2;have HX:=hid (HQ1.out _ (List.getElem_mem hlt));have ET:=hid (zAu d mapN hlt);have HP:=hid (zAy d mapN hlt);generalize r.maps[k]=x at HX ET HP r1;go_upto_region 15 with(first|(refine zAa rfl 84 _ rfl rfl r1.out Tryz.rowRMap Tryz.sizeRMap ?_)|(refine zAd rfl 84 _ _ rfl rfl rfl (HasC.new wr _ _) rfl Tryz.sizeRMap (RMap.one x (SlV.one HX.out.1)) ?_;intro w4 hz1 hz2))
   obtain⟨p,hp⟩:∃zz,zz=s++textL d (r.lists.map listN)++textL d ((r.maps.take k).map mapN):=⟨_,rfl⟩;have hb:=zAi hz2;have H4:Hid (XT 84 wr.heap.size x.C g d p w w4∧HasC 41 gy cl w4):=hid ⟨⟨by rw[hp];exact HR.out.1.1.keep hb,hz1,HR.out.1.2.trans (.of_below hb),by have:=HR.out.1.1.lt;omega,by decide⟩,HR.out.2.keep hb⟩;have HN:Hid (textN d (mapN x)=lineW d [[112,111,108,105,99,121],x.name] [32,123]++textL (d+1) (x.clauses.map clN)++lineW d [] [125]):=hid (by rw[mapN,zBm]);have HM:Hid (p.length+(lineW d [[112,111,108,105,99,121],x.name] [32,123]++textL (d+1) (x.clauses.map clN)++lineW d [] [125]).length≤140737488355328):=hid (by rw[←HN.out,hp,yA];have h1:=HL.out;have h2:=HP.out;simp only[yA]at h1⊢;omega);clear hz1 hz2 r1 HR hb HP;generalize wr.heap.size=gx at H4⊢;obtain⟨hat,hy⟩:=HX.out;replace hy:=hid hy;have HVI:=hid hat;have hni:x.clauses.length≤9223372036854775807:=by have:=SlV.len hat;unfold maxLen at this;omega
   obtain⟨AI,cI,hvi,-,-⟩:=hat;have HVJ:Hid (SlV w B 7 Cl.C (.slice AI x.clauses.length cI) x.clauses):=hid (by have:=HVI.out;unfold RMap.at at this;rwa [hvi]at this);clear HVI HX;have c0:w4.cell? ⟨gx,0,none⟩=some (.string (str x.name)):=H4.out.1.x.cell 0;go_wp2_with fail;refine(zEn H4.out.1 [[112,111,108,105,99,121],x.name] (by simp) (by have:=HM.out;simp only[yA]at this⊢;omega)).mono ?_;rintro e w5 ⟨rfl,h2,k2⟩;have H5:=hid (And.intro h2 (H4.out.2.fk k2 hgy.out (by decide)));clear h2 k2;clear H4 c0;have ci:w5.cell? ⟨gx,1,none⟩=some (.slice AI x.clauses.length cI):=by rw[←hvi];exact H5.out.1.x.cell 1
   clear hvi;have HR5:Hid (XT 41 gy cl g (d+1) (p++lineW d [[112,111,108,105,99,121],x.name] [32,123]) w w5):=hid ⟨H5.out.1.t,H5.out.2,H5.out.1.k,hgy.out,by decide⟩;clear H5;go_upto_block 6 with fail
   go_cut [] (fun wx=>XT 41 gy cl g (d+1) (p++lineW d [[112,111,108,105,99,121],x.name] [32,123]++textL (d+1) (x.clauses.map clN)) w wx)
   case first=>
    have hgy:=hid HR5.out.hg;go_wp2;go_loopg [57] x.clauses.length (fun gh ix wr=>∃j:Nat,j+gh=x.clauses.length∧ix=.int .i64 j∧Hid ((TX g (d+1) (p++lineW d [[112,111,108,105,99,121],x.name] [32,123]++textL (d+1) ((x.clauses.take j).map clN)) wr∧FK g w wr)∧HasC 41 gy cl wr));case atStart=>exact⟨0,by omega,rfl,hid ⟨⟨by rw[List.take_zero,List.map_nil,textL,yF];exact HR5.out.t,HR5.out.k⟩,HR5.out.x⟩⟩
    case round=>
     obtain⟨j,hk,rfl,HR⟩:=hrel;by_cases hlt:j<x.clauses.length;case neg=>
      have hkz:¬((j:Int)<(x.clauses.length:Int)):=by omega
      have E:=zBc (d+1) clN hlt;go_wp2;go_meet;rw[←E];exact⟨HR.out.1.1,HR.out.2,HR.out.1.2,hgy.out,by decide⟩
     have hkz:(j:Int)<(x.clauses.length:Int):=by omega
     obtain⟨gr,o,c', e',-,hgr,R0⟩:=SlV.elem (n:=7) (by decide) (fun _=>rfl) HVJ.out hlt;injection e' with e1 e2 e3
     subst e1 e3;have r1:=hid (zAg R0 ((HR.out.1.2.below (Nat.le_of_lt hg.out)).mono hB.out) hgr);clear R0 e2;have HX:=hid (hy.out _ (List.getElem_mem hlt));have ET:=hid (zAu (d+1) clN hlt);have HP:=hid (zAy (d+1) clN hlt);generalize x.clauses[j]=y at HX ET HP r1;go_upto_region 19 with(first|(refine zAa rfl 138 _ rfl rfl r1.out Tryz.rowCl Tryz.sizeCl ?_)|(refine zAd rfl 138 _ _ rfl rfl rfl (HasC.new wr _ _) rfl Tryz.sizeCl (Cl.one y) ?_;intro w4 hz1 hz2))
     obtain⟨q,hp⟩:∃zz,zz=p++lineW d [[112,111,108,105,99,121],x.name] [32,123]++textL (d+1) ((x.clauses.take j).map clN):=⟨_,rfl⟩;have hb:=zAi hz2;have H4:Hid (XT 138 wr.heap.size y.C g (d+1) q w w4∧HasC 41 gy cl w4):=hid ⟨⟨by rw[hp];exact HR.out.1.1.keep hb,hz1,HR.out.1.2.trans (.of_below hb),by have:=HR.out.1.1.lt;omega,by decide⟩,HR.out.2.keep hb⟩;have HN:Hid (textN (d+1) (clN y)=lineW (d+1) [[116,101,114,109]] [32,123]++textL ((d+1)+1) (clK y)++lineW (d+1) [] [125]):=hid (by rw[clN,zBm]);have HM:Hid (q.length+(lineW (d+1) [[116,101,114,109]] [32,123]++textL ((d+1)+1) (clK y)++lineW (d+1) [] [125]).length≤140737488355328):=hid (by rw[←HN.out,hp,yA];have h1:=HM.out;have h2:=HP.out;simp only[yA]at h1⊢;omega);clear hz1 hz2 r1 HR hb HP;generalize wr.heap.size=gz at H4⊢;have hry:=HX.out;go_wp2_with fail;refine(zEn H4.out.1 [[116,101,114,109]] (by simp) (by have:=HM.out;simp only[yA]at this⊢;omega)).mono ?_;rintro e w5 ⟨rfl,h2,k2⟩;have H5:=hid (And.intro h2 (H4.out.2.fk k2 hgy.out (by decide)));clear h2 k2;clear H4;have hra:=H5.out.1.x.range;go_wp2_with (first|(refine zAa rfl 138 _ rfl rfl hra Tryz.rowCl Tryz.sizeCl ?_));refine(fclause_any g ((d+1)+1) _ y _ H5.out.1.t (HEA.out _ H5.out.1.k) hry (by have:=HM.out;simp only[yA]at this⊢;omega)).mono ?_;rintro e w6 ⟨rfl,h2,k2⟩;have H6:=hid (And.intro (H5.out.1.go h2 k2) (H5.out.2.fk k2 hgy.out (by decide)));clear h2 k2 hra;clear H5;go_wp2_with fail;refine(zFp H6.out.1 (by have:=HM.out;simp only[yA]at this⊢;omega)).mono ?_;rintro e w7 ⟨rfl,h2,k2⟩;have H7:=hid (And.intro h2 (H6.out.2.fk k2 hgy.out (by decide)));clear h2 k2;clear H6;go_wp2;go_roundg (x.clauses.length - (j+1));case measure=>omega
     case rel=>
      refine⟨j+1,by omega,by go_num,hid ⟨⟨?_,H7.out.1.k⟩,H7.out.2⟩⟩;have:=H7.out.1.t;rw[hp]at this;rw[ET.out,HN.out];simpa only[yE] using this
   case rest=>
   clear HR5;have H:=hid hcut;clear hcut;clear ci;go_wp2_with fail;refine(zFp H.out (by have:=HM.out;simp only[yA]at this⊢;omega)).mono ?_;rintro e w7 ⟨rfl,h2,k2⟩;have H7:=hid h2;clear h2 k2;clear H;go_wp2;go_roundg (r.maps.length - (k+1));case measure=>omega
   case rel=>
    refine⟨k+1,by omega,by go_num,hid ⟨⟨?_,H7.out.k⟩,H7.out.x⟩⟩;have:=H7.out.t;rw[hp]at this;rw[ET.out,HN.out];simpa only[yE] using this
 case rest=>
 clear H;have H:=hid hcut;clear hcut;clear c4;have c5:wc.cell? ⟨gy,5,none⟩=some (.slice A2 r.acls.length c2):=(H.out.x.cell 5).trans C5.out;have hgy:=hid H.out.hg;go_wp2;go_loopg [76] r.acls.length (fun gh ix wr=>∃k:Nat,k+gh=r.acls.length∧ix=.int .i64 k∧Hid ((TX g d (s++textL d (r.lists.map listN)++textL d (r.maps.map mapN)++textL d ((r.acls.take k).map aclN)) wr∧FK g w wr)∧HasC 41 gy cl wr));case atStart=>exact⟨0,by omega,rfl,hid ⟨⟨by rw[List.take_zero,List.map_nil,textL,yF];exact H.out.t,H.out.k⟩,H.out.x⟩⟩
 case round=>
  obtain⟨k,hk,rfl,HR⟩:=hrel;by_cases hlt:k<r.acls.length;case neg=>
   have hkz:¬((k:Int)<(r.acls.length:Int)):=by omega
   have E:=zBc d aclN hlt;go_wp2_with fail;go_end0;rw[E]at HR;exact⟨rfl,by simpa only[yE] using HR.out.1.1,HR.out.1.2⟩
  have hkz:(k:Int)<(r.acls.length:Int):=by omega
  obtain⟨gr,o,c', e',-,hgr,R0⟩:=SlV.elem (n:=2) (by decide) (fun _=>rfl) HV2.out hlt;injection e' with e1 e2 e3
  subst e1 e3;have r1:=hid (zAg R0 ((HR.out.1.2.below (Nat.le_of_lt hg.out)).mono hB.out) hgr);clear R0 e2;have HX:=hid (HQ2.out _ (List.getElem_mem hlt));have ET:=hid (zAu d aclN hlt);have HP:=hid (zAy d aclN hlt);generalize r.acls[k]=x at HX ET HP r1;go_upto_region 28 with(first|(refine zAa rfl 87 _ rfl rfl r1.out Tryz.rowAList Tryz.sizeAList ?_)|(refine zAd rfl 87 _ _ rfl rfl rfl (HasC.new wr _ _) rfl Tryz.sizeAList (AList.one x (SlV.one HX.out.1)) ?_;intro w4 hz1 hz2))
  obtain⟨p,hp⟩:∃zz,zz=s++textL d (r.lists.map listN)++textL d (r.maps.map mapN)++textL d ((r.acls.take k).map aclN):=⟨_,rfl⟩;have hb:=zAi hz2;have H4:Hid (XT 87 wr.heap.size x.C g d p w w4∧HasC 41 gy cl w4):=hid ⟨⟨by rw[hp];exact HR.out.1.1.keep hb,hz1,HR.out.1.2.trans (.of_below hb),by have:=HR.out.1.1.lt;omega,by decide⟩,HR.out.2.keep hb⟩;have HN:Hid (textN d (aclN x)=lineW d [[102,105,108,116,101,114],x.name] [32,123]++textL (d+1) (x.rules.map ruN)++lineW d [] [125]):=hid (by rw[aclN,zBm]);have HM:Hid (p.length+(lineW d [[102,105,108,116,101,114],x.name] [32,123]++textL (d+1) (x.rules.map ruN)++lineW d [] [125]).length≤140737488355328):=hid (by rw[←HN.out,hp,yA];have h1:=HL.out;have h2:=HP.out;simp only[yA]at h1⊢;omega);clear hz1 hz2 r1 HR hb HP;generalize wr.heap.size=gx at H4⊢;obtain⟨hat,hy⟩:=HX.out;replace hy:=hid hy;have HVI:=hid hat;have hni:x.rules.length≤9223372036854775807:=by have:=SlV.len hat;unfold maxLen at this;omega
  obtain⟨AI,cI,hvi,-,-⟩:=hat;have HVJ:Hid (SlV w B 10 Ru.C (.slice AI x.rules.length cI) x.rules):=hid (by have:=HVI.out;unfold AList.at at this;rwa [hvi]at this);clear HVI HX;have c0:w4.cell? ⟨gx,0,none⟩=some (.string (str x.name)):=H4.out.1.x.cell 0;go_wp2_with fail;refine(zEn H4.out.1 [[102,105,108,116,101,114],x.name] (by simp) (by have:=HM.out;simp only[yA]at this⊢;omega)).mono ?_;rintro e w5 ⟨rfl,h2,k2⟩;have H5:=hid (And.intro h2 (H4.out.2.fk k2 hgy.out (by decide)));clear h2 k2;clear H4 c0;have ci:w5.cell? ⟨gx,1,none⟩=some (.slice AI x.rules.length cI):=by rw[←hvi];exact H5.out.1.x.cell 1
  clear hvi;have HR5:Hid (XT 41 gy cl g (d+1) (p++lineW d [[102,105,108,116,101,114],x.name] [32,123]) w w5):=hid ⟨H5.out.1.t,H5.out.2,H5.out.1.k,hgy.out,by decide⟩;clear H5;go_upto_block 10 with fail
  go_cut [] (fun wx=>XT 41 gy cl g (d+1) (p++lineW d [[102,105,108,116,101,114],x.name] [32,123]++textL (d+1) (x.rules.map ruN)) w wx)
  case first=>
   have hgy:=hid HR5.out.hg;go_wp2;go_loopg [88] x.rules.length (fun gh ix wr=>∃j:Nat,j+gh=x.rules.length∧ix=.int .i64 j∧Hid ((TX g (d+1) (p++lineW d [[102,105,108,116,101,114],x.name] [32,123]++textL (d+1) ((x.rules.take j).map ruN)) wr∧FK g w wr)∧HasC 41 gy cl wr));case atStart=>exact⟨0,by omega,rfl,hid ⟨⟨by rw[List.take_zero,List.map_nil,textL,yF];exact HR5.out.t,HR5.out.k⟩,HR5.out.x⟩⟩
   case round=>
    obtain⟨j,hk,rfl,HR⟩:=hrel;by_cases hlt:j<x.rules.length;case neg=>
     have hkz:¬((j:Int)<(x.rules.length:Int)):=by omega
     have E:=zBc (d+1) ruN hlt;go_wp2;go_meet;rw[←E];exact⟨HR.out.1.1,HR.out.2,HR.out.1.2,hgy.out,by decide⟩
    have hkz:(j:Int)<(x.rules.length:Int):=by omega
    obtain⟨gr,o,c', e',-,hgr,R0⟩:=SlV.elem (n:=10) (by decide) (fun _=>rfl) HVJ.out hlt;injection e' with e1 e2 e3
    subst e1 e3;have r1:=hid (zAg R0 ((HR.out.1.2.below (Nat.le_of_lt hg.out)).mono hB.out) hgr);clear R0 e2;have HX:=hid (hy.out _ (List.getElem_mem hlt));have ET:=hid (zAu (d+1) ruN hlt);have HP:=hid (zAy (d+1) ruN hlt);generalize x.rules[j]=y at HX ET HP r1;go_upto_region 32 with(first|(refine zAa rfl 144 _ rfl rfl r1.out Tryz.rowRu Tryz.sizeRu ?_)|(refine zAd rfl 144 _ _ rfl rfl rfl (HasC.new wr _ _) rfl Tryz.sizeRu (Ru.one y) ?_;intro w4 hz1 hz2))
    obtain⟨q,hp⟩:∃zz,zz=p++lineW d [[102,105,108,116,101,114],x.name] [32,123]++textL (d+1) ((x.rules.take j).map ruN):=⟨_,rfl⟩;have hb:=zAi hz2;have H4:Hid (XT 144 wr.heap.size y.C g (d+1) q w w4∧HasC 41 gy cl w4):=hid ⟨⟨by rw[hp];exact HR.out.1.1.keep hb,hz1,HR.out.1.2.trans (.of_below hb),by have:=HR.out.1.1.lt;omega,by decide⟩,HR.out.2.keep hb⟩;have HN:Hid (textN (d+1) (ruN y)=lineW (d+1) [[116,101,114,109]] [32,123]++textL ((d+1)+1) (ruK y)++lineW (d+1) [] [125]):=hid (by rw[ruN,zBm]);have HM:Hid (q.length+(lineW (d+1) [[116,101,114,109]] [32,123]++textL ((d+1)+1) (ruK y)++lineW (d+1) [] [125]).length≤140737488355328):=hid (by rw[←HN.out,hp,yA];have h1:=HM.out;have h2:=HP.out;simp only[yA]at h1⊢;omega);clear hz1 hz2 r1 HR hb HP;generalize wr.heap.size=gz at H4⊢;obtain⟨hry,hfy⟩:=HX.out;go_wp2_with fail;refine(zEn H4.out.1 [[116,101,114,109]] (by simp) (by have:=HM.out;simp only[yA]at this⊢;omega)).mono ?_;rintro e w5 ⟨rfl,h2,k2⟩;have H5:=hid (And.intro h2 (H4.out.2.fk k2 hgy.out (by decide)));clear h2 k2;clear H4;have hra:=H5.out.1.x.range;go_wp2_with (first|(refine zAa rfl 144 _ rfl rfl hra Tryz.rowRu Tryz.sizeRu ?_));refine(frule_any g ((d+1)+1) _ y _ H5.out.1.t (HEA.out _ H5.out.1.k) hry hfy (by have:=HM.out;simp only[yA]at this⊢;omega)).mono ?_;rintro e w6 ⟨rfl,h2,k2⟩;have H6:=hid (And.intro (H5.out.1.go h2 k2) (H5.out.2.fk k2 hgy.out (by decide)));clear h2 k2 hra;clear H5;go_wp2_with fail;refine(zFp H6.out.1 (by have:=HM.out;simp only[yA]at this⊢;omega)).mono ?_;rintro e w7 ⟨rfl,h2,k2⟩;have H7:=hid (And.intro h2 (H6.out.2.fk k2 hgy.out (by decide)));clear h2 k2;clear H6;go_wp2;go_roundg (x.rules.length - (j+1));case measure=>omega
    case rel=>
     refine⟨j+1,by omega,by go_num,hid ⟨⟨?_,H7.out.1.k⟩,H7.out.2⟩⟩;have:=H7.out.1.t;rw[hp]at this;rw[ET.out,HN.out];simpa only[yE] using this
  case rest=>
  clear HR5;have H:=hid hcut;clear hcut;clear ci;go_wp2_with fail;refine(zFp H.out (by have:=HM.out;simp only[yA]at this⊢;omega)).mono ?_;rintro e w7 ⟨rfl,h2,k2⟩;have H7:=hid h2;clear h2 k2;clear H;go_wp2;go_roundg (r.acls.length - (k+1));case measure=>omega
  case rel=>
   refine⟨k+1,by omega,by go_num,hid ⟨⟨?_,H7.out.k⟩,H7.out.x⟩⟩;have:=H7.out.t;rw[hp]at this;rw[ET.out,HN.out];simpa only[yE] using this
theorem tr_kinds{x:Tr}(h:zBl x=true):x.kind=1∨x.kind=2∨x.kind=3:=by
 unfold zBl at h;split at h
 ·exact .inl ‹_›
 ·split at h
  ·exact .inr (.inl ‹_›)
  ·split at h
   ·exact .inr (.inr ‹_›)
   ·cases h
theorem tr_forward{x:Tr}(h:zBl x=true)(e:x.kind=3):(x.proto=6∨x.proto=17)∧(0≤x.iport∧x.iport≤65535)∧0≤x.oport∧x.oport≤65535:=by
 unfold zBl at h;rw[if_neg (by omega),if_neg (by omega),if_pos e]at h;simp only[Bool.and_eq_true]at h;obtain⟨⟨⟨⟨⟨⟨⟨_,_⟩,h3⟩,h4⟩,h5⟩,_⟩,_⟩,_⟩:=h;exact⟨by simpa using h3,zAp h4,zAp h5⟩
theorem ftrans_any(g d:Nat)(s:List UInt8)(l:List Tr)(v:Value)(w:World)(B:Nat)(h:TX g d s w)(he:EnvA g w)(hB:B≤g)(hv:SlV w B 9 Tr.C v l)(hx:∀x∈l,zBl x=true∧x.fit)(hl:(s++textL d (natN l)).length≤140737488355328) :
  Calls Tryz.prog 33 #[.pointer (some ⟨g,0,none⟩),v] w (TP g d s (textL d (natN l)) w):=by
 have HV:=hid hv;have hln:l.length≤9223372036854775807:=by have:=hv.len;unfold maxLen at this;omega
 obtain⟨A,c,hve,hle,-⟩:=hv;have hg:=hid h.lt;have HEA:Hid (∀W,FK g w W→EnvA g W):=hid fun W hk=>he.keep (hk.below (Nat.le_of_lt hg.out))
 have HE:Hid (∀W,FK g w W→Env W):=hid fun W hk=>(HEA.out W hk).1
 have H:=hid h;replace hx:=hid hx;replace hB:=hid hB;clear h he;subst hve;cases hem:l.isEmpty with
 |true=>
  obtain rfl:=List.isEmpty_iff.1 hem;go_enter Tryz.func33,Tryz.ntmps33;go_wp2_with fail;go_end0;exact⟨rfl,by rw[show natN []=[]from rfl,textL,yF];exact H.out,FK.refl _ _⟩
 |false=>
 have hz:((l.length:Int)==0)=false:=by
  cases l with
  |nil=>cases hem
  |cons a b=>rw[beq_eq_false_iff_ne];simp only[yG];omega
 have EL:Hid (textL d (natN l)=lineW d [[116,114,97,110,115,108,97,116,105,111,110]] [32,123]++textL (d+1) (l.map (fun x=>stn (trW x)))++lineW d [] [125]):=hid (by rw[natN,hem,if_neg (by decide),zAz,zBm]);rw[EL.out]at hl;have HL:=hid hl;clear hl hem;go_enter Tryz.func33,Tryz.ntmps33;go_wp2_with fail;refine(open_tx H.out (FK.refl _ _) [[116,114,97,110,115,108,97,116,105,111,110]] (by simp) (by have:=HL.out;simp only[yA]at this⊢;omega)).mono ?_;rintro e w2 ⟨rfl,h2,k2⟩;have H2:=hid (And.intro h2 k2);clear h2 k2 H;go_wp2;go_loopg [14] l.length (fun gh ix wr=>∃k:Nat,k+gh=l.length∧ix=.int .i64 k∧Hid (TX g (d+1) (s++lineW d [[116,114,97,110,115,108,97,116,105,111,110]] [32,123]++textL (d+1) ((l.take k).map (fun x=>stn (trW x)))) wr∧FK g w wr));case atStart=>exact⟨0,by omega,rfl,hid ⟨by rw[List.take_zero,List.map_nil,textL,yF];exact H2.out.1,H2.out.2⟩⟩
 case round=>
  obtain⟨k,hk,rfl,HR⟩:=hrel;by_cases hlt:k<l.length;case neg=>
   have hkz:¬((k:Int)<(l.length:Int)):=by omega
   have E:=zBc (d+1) (fun x=>stn (trW x)) hlt;go_wp2_with fail;refine(close_tx HR.out.1 HR.out.2 (by rw[E];have:=HL.out;simp only[yA]at this⊢;omega)).mono ?_;rintro e w3 ⟨rfl,h3,k3⟩;have R:=hid (And.intro h3 k3);clear h3 k3;go_wp2_with fail;go_end0;refine⟨rfl,?_,R.out.2⟩;have:=R.out.1;rw[E]at this;rw[EL.out];simpa only[yE] using this
  have hkz:(k:Int)<(l.length:Int):=by omega
  obtain⟨gr,o,c', e',-,hgr,R0⟩:=SlV.elem (n:=9) (by decide) (fun _=>rfl) HV.out hlt;injection e' with e1 e2 e3
  subst e1 e3;have r1:=hid (zAg R0 ((HR.out.2.below (Nat.le_of_lt hg.out)).mono hB.out) hgr);clear R0 e2;have HX:=hid (hx.out _ (List.getElem_mem hlt));have ET:=hid (zAu (d+1) (fun x=>stn (trW x)) hlt);have HP:=hid (zAy (d+1) (fun x=>stn (trW x)) hlt);generalize l[k]=x at HX ET HP r1;go_upto_region 5 with(first|(refine zAa rfl 74 _ rfl rfl r1.out Tryz.rowTr Tryz.sizeTr ?_)|(refine zAd rfl 74 _ _ rfl rfl rfl (HasC.new wr _ _) rfl Tryz.sizeTr (Tr.one x) ?_;intro w4 hz1 hz2))
  obtain⟨p,hp⟩:∃zz,zz=s++lineW d [[116,114,97,110,115,108,97,116,105,111,110]] [32,123]++textL (d+1) ((l.take k).map (fun x=>stn (trW x))):=⟨_,rfl⟩;have hb:=zAi hz2;have H4:Hid (XT 74 wr.heap.size x.C g (d+1) p w w4):=hid ⟨by rw[hp];exact HR.out.1.keep hb,hz1,HR.out.2.trans (.of_below hb),by have:=HR.out.1.lt;omega,by decide⟩;have HM:Hid (p.length+(textN (d+1) (stn (trW x))).length≤140737488355328):=hid (by rw[hp,yA];have h1:=HL.out;have h2:_+(textN (d+1) (stn (trW x))).length≤_:=HP.out;simp only[yA]at h1⊢;omega);clear hz1 hz2 r1 HR hb HP;generalize wr.heap.size=gx at H4⊢;obtain⟨hr,hf⟩:=HX.out;obtain⟨f1,f2,f3,f4⟩:=hf;have hk3:=tr_kinds hr;have c0:=cl0 H4.out.x;by_cases e1:x.kind=1
  ·have E:textN (d+1) (stn (trW x))=lineW (d+1) [[115,116,97,116,105,99],fmtA x.ins,fmtA x.outs] [59]:=by rw[zAn,trW,e1];rfl
   have g1:(x.kind==1)=true:=by rw[e1];rfl
   have g2:(x.kind==2)=false:=by rw[e1];rfl
   have g3:(x.kind==3)=false:=by rw[e1];rfl
   clear e1 hr hk3;go_upto_region 7 with fail
   have HX:Hid (∀W,XT 74 gx x.C g (d+1) (p) w W→W.cell? ⟨gx,1,none⟩=some (.int .u32 (x.ins:Int))∧W.cell? ⟨gx,2,none⟩=some (.int .u32 (x.outs:Int))):=hid fun W hW=>⟨hW.x.cell 1,hW.x.cell 2⟩
   have Q0:Hid (∀W,XT 74 gx x.C g (d+1) (p) w W→Calls Tryz.prog 106 #[.int .u32 (x.ins:Int)] W fun e w' => e=.returned (.string (str (fmtA x.ins)))∧XT 74 gx x.C g (d+1) (p) w w'):=hid fun W hW=>(zDa x.ins W f1 (HE.out _ hW.k)).mono fun e w' ⟨he,hk⟩=>⟨he,hW.below hk⟩
   have Q1:Hid (∀W,XT 74 gx x.C g (d+1) (p) w W→Calls Tryz.prog 106 #[.int .u32 (x.outs:Int)] W fun e w' => e=.returned (.string (str (fmtA x.outs)))∧XT 74 gx x.C g (d+1) (p) w w'):=hid fun W hW=>(zDa x.outs W f2 (HE.out _ hW.k)).mono fun e w' ⟨he,hk⟩=>⟨he,hW.below hk⟩
   refine zCm (fun W=>XT 74 gx x.C g (d+1) (p) w W) [1,2,3,4,5,6] [7,8] (by kernel_rfl) rfl (by kernel_rfl) H4.out.drew (fun _ _ _ h=>h) rfl (fun W=>by go_simp<;>rfl) ?_;simp only[opsAt,List.getElem?_toArray,List.getElem?_cons_zero,List.getElem?_cons_succ,Act.put,yB]
   repeat
    (first
     |(refine zBq (v:=?_) ?_ ?_ ?_;rotate_left;(· rfl);(· (intro W hW;obtain⟨c1,c2⟩:=HX.out W hW;go_simp<;>rfl)))
     |(refine zAm ?_ ?_ Q0.out ?_;(· rfl);(· (intro W hW;go_simp<;>rfl)))
     |(refine zAm ?_ ?_ Q1.out ?_;(· rfl);(· (intro W hW;go_simp<;>rfl))))
    simp only[Act.put]
   refine zCg ?_;intro wq hS;change wpList _ _ _ (_ :: _ :: []) _ _;have HS:=hid hS;clear hS HX Q0 Q1;go_wp2_with fail;refine(zBd HS.out [[115,116,97,116,105,99],fmtA x.ins,fmtA x.outs] (by simp) (by rw[←E];exact HM.out)).mono ?_;rintro e w2 ⟨rfl,h2,k2⟩;rw[←E]at h2;have H2:=hid h2;clear h2 k2;go_wp2;go_roundg (l.length - (k+1));case measure=>omega
   case rel=>
    refine⟨k+1,by omega,by go_num,hid ⟨?_,H2.out.k⟩⟩;have:=H2.out.t;rw[hp]at this;rw[ET.out];simpa only[yE] using this
  by_cases e2:x.kind=2
  ·have E:textN (d+1) (stn (trW x))=lineW (d+1) [[112,111,111,108],x.list,fmtA x.lo,fmtA x.hi] [59]:=by rw[zAn,trW,e2];rfl
   have g1:(x.kind==1)=false:=by rw[e2];rfl
   have g2:(x.kind==2)=true:=by rw[e2];rfl
   have g3:(x.kind==3)=false:=by rw[e2];rfl
   clear e2 hr hk3;go_upto_region 9 with fail
   have HX:Hid (∀W,XT 74 gx x.C g (d+1) (p) w W→W.cell? ⟨gx,6,none⟩=some (.string (str x.list))∧W.cell? ⟨gx,7,none⟩=some (.int .u32 (x.lo:Int))∧W.cell? ⟨gx,8,none⟩=some (.int .u32 (x.hi:Int))):=hid fun W hW=>⟨hW.x.cell 6,hW.x.cell 7,hW.x.cell 8⟩
   have Q0:Hid (∀W,XT 74 gx x.C g (d+1) (p) w W→Calls Tryz.prog 106 #[.int .u32 (x.lo:Int)] W fun e w' => e=.returned (.string (str (fmtA x.lo)))∧XT 74 gx x.C g (d+1) (p) w w'):=hid fun W hW=>(zDa x.lo W f3 (HE.out _ hW.k)).mono fun e w' ⟨he,hk⟩=>⟨he,hW.below hk⟩
   have Q1:Hid (∀W,XT 74 gx x.C g (d+1) (p) w W→Calls Tryz.prog 106 #[.int .u32 (x.hi:Int)] W fun e w' => e=.returned (.string (str (fmtA x.hi)))∧XT 74 gx x.C g (d+1) (p) w w'):=hid fun W hW=>(zDa x.hi W f4 (HE.out _ hW.k)).mono fun e w' ⟨he,hk⟩=>⟨he,hW.below hk⟩
   refine zCm (fun W=>XT 74 gx x.C g (d+1) (p) w W) [1,2,3,4,5,6,7,8] [9,10] (by kernel_rfl) rfl (by kernel_rfl) H4.out.drew (fun _ _ _ h=>h) rfl (fun W=>by go_simp<;>rfl) ?_;simp only[opsAt,List.getElem?_toArray,List.getElem?_cons_zero,List.getElem?_cons_succ,Act.put,yB]
   repeat
    (first
     |(refine zBq (v:=?_) ?_ ?_ ?_;rotate_left;(· rfl);(· (intro W hW;obtain⟨c6,c7,c8⟩:=HX.out W hW;go_simp<;>rfl)))
     |(refine zAm ?_ ?_ Q0.out ?_;(· rfl);(· (intro W hW;go_simp<;>rfl)))
     |(refine zAm ?_ ?_ Q1.out ?_;(· rfl);(· (intro W hW;go_simp<;>rfl))))
    simp only[Act.put]
   refine zCg ?_;intro wq hS;change wpList _ _ _ (_ :: _ :: []) _ _;have HS:=hid hS;clear hS HX Q0 Q1;go_wp2_with fail;refine(zBd HS.out [[112,111,111,108],x.list,fmtA x.lo,fmtA x.hi] (by simp) (by rw[←E];exact HM.out)).mono ?_;rintro e w2 ⟨rfl,h2,k2⟩;rw[←E]at h2;have H2:=hid h2;clear h2 k2;go_wp2;go_roundg (l.length - (k+1));case measure=>omega
   case rel=>
    refine⟨k+1,by omega,by go_num,hid ⟨?_,H2.out.k⟩⟩;have:=H2.out.t;rw[hp]at this;rw[ET.out];simpa only[yE] using this
  by_cases e3:x.kind=3
  ·have E:textN (d+1) (stn (trW x))=lineW (d+1) [[102,111,114,119,97,114,100],protW x.proto,fmtA x.outs,decI x.oport,fmtA x.ins,decI x.iport] [59]:=by rw[zAn,trW,e3];rfl
   have hq:=tr_forward hr e3;have g1:(x.kind==1)=false:=by rw[e3];rfl
   have g2:(x.kind==2)=false:=by rw[e3];rfl
   have g3:(x.kind==3)=true:=by rw[e3];rfl
   clear e3 hr hk3;go_upto_region 11 with fail
   have HX:Hid (∀W,XT 74 gx x.C g (d+1) (p) w W→W.cell? ⟨gx,3,none⟩=some (.int .i64 x.proto)∧W.cell? ⟨gx,2,none⟩=some (.int .u32 (x.outs:Int))∧W.cell? ⟨gx,5,none⟩=some (.int .i64 x.oport)∧W.cell? ⟨gx,1,none⟩=some (.int .u32 (x.ins:Int))∧W.cell? ⟨gx,4,none⟩=some (.int .i64 x.iport)):=hid fun W hW=>⟨hW.x.cell 3,hW.x.cell 2,hW.x.cell 5,hW.x.cell 1,hW.x.cell 4⟩
   have Q0:Hid (∀W,XT 74 gx x.C g (d+1) (p) w W→Calls Tryz.prog 107 #[.int .i64 x.proto] W fun e w' => e=.returned (.string (str (protW x.proto)))∧XT 74 gx x.C g (d+1) (p) w w'):=hid fun W hW=>(fprot_any x.proto (by omega) (by omega) W (HE.out _ hW.k)).mono fun e w' ⟨he,hk⟩=>⟨he,hW.below hk⟩
   have Q1:Hid (∀W,XT 74 gx x.C g (d+1) (p) w W→Calls Tryz.prog 106 #[.int .u32 (x.outs:Int)] W fun e w' => e=.returned (.string (str (fmtA x.outs)))∧XT 74 gx x.C g (d+1) (p) w w'):=hid fun W hW=>(zDa x.outs W f2 (HE.out _ hW.k)).mono fun e w' ⟨he,hk⟩=>⟨he,hW.below hk⟩
   have Q2:Hid (∀W,XT 74 gx x.C g (d+1) (p) w W→Calls Tryz.prog 29 #[.int .i64 x.oport] W fun e w' => e=.returned (.string (str (decI x.oport)))∧XT 74 gx x.C g (d+1) (p) w w'):=hid fun W hW=>(zCc x.oport (by omega) (by omega) W (HE.out _ hW.k)).mono fun e w' ⟨he,hk⟩=>⟨he,hW.below hk⟩
   have Q3:Hid (∀W,XT 74 gx x.C g (d+1) (p) w W→Calls Tryz.prog 106 #[.int .u32 (x.ins:Int)] W fun e w' => e=.returned (.string (str (fmtA x.ins)))∧XT 74 gx x.C g (d+1) (p) w w'):=hid fun W hW=>(zDa x.ins W f1 (HE.out _ hW.k)).mono fun e w' ⟨he,hk⟩=>⟨he,hW.below hk⟩
   have Q4:Hid (∀W,XT 74 gx x.C g (d+1) (p) w W→Calls Tryz.prog 29 #[.int .i64 x.iport] W fun e w' => e=.returned (.string (str (decI x.iport)))∧XT 74 gx x.C g (d+1) (p) w w'):=hid fun W hW=>(zCc x.iport (by omega) (by omega) W (HE.out _ hW.k)).mono fun e w' ⟨he,hk⟩=>⟨he,hW.below hk⟩
   refine zCm (fun W=>XT 74 gx x.C g (d+1) (p) w W) [1,2,3,4,5,6,7,8,9,10,11,12,13,14,15] [16,17] (by kernel_rfl) rfl (by kernel_rfl) H4.out.drew (fun _ _ _ h=>h) rfl (fun W=>by go_simp<;>rfl) ?_;simp only[opsAt,List.getElem?_toArray,List.getElem?_cons_zero,List.getElem?_cons_succ,Act.put,yB]
   repeat
    (first
     |(refine zBq (v:=?_) ?_ ?_ ?_;rotate_left;(· rfl);(· (intro W hW;obtain⟨c3,c2,c5,c1,c4⟩:=HX.out W hW;go_simp<;>rfl)))
     |(refine zAm ?_ ?_ Q0.out ?_;(· rfl);(· (intro W hW;go_simp<;>rfl)))
     |(refine zAm ?_ ?_ Q1.out ?_;(· rfl);(· (intro W hW;go_simp<;>rfl)))
     |(refine zAm ?_ ?_ Q2.out ?_;(· rfl);(· (intro W hW;go_simp<;>rfl)))
     |(refine zAm ?_ ?_ Q3.out ?_;(· rfl);(· (intro W hW;go_simp<;>rfl)))
     |(refine zAm ?_ ?_ Q4.out ?_;(· rfl);(· (intro W hW;go_simp<;>rfl))))
    simp only[Act.put]
   refine zCg ?_;intro wq hS;change wpList _ _ _ (_ :: _ :: []) _ _;have HS:=hid hS;clear hS HX Q0 Q1 Q2 Q3 Q4;go_wp2_with fail;refine(zBd HS.out [[102,111,114,119,97,114,100],protW x.proto,fmtA x.outs,decI x.oport,fmtA x.ins,decI x.iport] (by simp) (by rw[←E];exact HM.out)).mono ?_;rintro e w2 ⟨rfl,h2,k2⟩;rw[←E]at h2;have H2:=hid h2;clear h2 k2;go_wp2;go_roundg (l.length - (k+1));case measure=>omega
   case rel=>
    refine⟨k+1,by omega,by go_num,hid ⟨?_,H2.out.k⟩⟩;have:=H2.out.t;rw[hp]at this;rw[ET.out];simpa only[yE] using this
  omega
theorem fstatics_any(g d:Nat)(s:List UInt8)(l:List Sr)(v:Value)(w:World)(B:Nat)(h:TX g d s w)(he:EnvA g w)(hB:B≤g)(hv:SlV w B 7 Sr.C v l)(hx:∀x∈l,zAv x.pa x.pl=true∧(1≤x.admin∧x.admin≤255)∧(0≤x.tag∧x.tag≤65535)∧x.fit)(hl:(s++textL d (statN l)).length≤140737488355328) :
  Calls Tryz.prog 34 #[.pointer (some ⟨g,0,none⟩),v] w (TP g d s (textL d (statN l)) w):=by
 have HV:=hid hv;have hln:l.length≤9223372036854775807:=by have:=hv.len;unfold maxLen at this;omega
 obtain⟨A,c,hve,hle,-⟩:=hv;have hg:=hid h.lt;have HEA:Hid (∀W,FK g w W→EnvA g W):=hid fun W hk=>he.keep (hk.below (Nat.le_of_lt hg.out))
 have HE:Hid (∀W,FK g w W→Env W):=hid fun W hk=>(HEA.out W hk).1
 have H:=hid h;replace hx:=hid hx;replace hB:=hid hB;clear h he;subst hve;cases hem:l.isEmpty with
 |true=>
  obtain rfl:=List.isEmpty_iff.1 hem;go_enter Tryz.func34,Tryz.ntmps34;go_wp2_with fail;go_end0;exact⟨rfl,by rw[show statN []=[]from rfl,textL,yF];exact H.out,FK.refl _ _⟩
 |false=>
 have hz:((l.length:Int)==0)=false:=by
  cases l with
  |nil=>cases hem
  |cons a b=>rw[beq_eq_false_iff_ne];simp only[yG];omega
 have EL:Hid (textL d (statN l)=lineW d [[115,116,97,116,105,99]] [32,123]++textL (d+1) (l.map srN)++lineW d [] [125]):=hid (by rw[statN,hem,if_neg (by decide),zAz,zBm]);rw[EL.out]at hl;have HL:=hid hl;clear hl hem;go_enter Tryz.func34,Tryz.ntmps34;go_wp2_with fail;refine(open_tx H.out (FK.refl _ _) [[115,116,97,116,105,99]] (by simp) (by have:=HL.out;simp only[yA]at this⊢;omega)).mono ?_;rintro e w2 ⟨rfl,h2,k2⟩;have H2:=hid (And.intro h2 k2);clear h2 k2 H;go_wp2;go_loopg [14] l.length (fun gh ix wr=>∃k:Nat,k+gh=l.length∧ix=.int .i64 k∧Hid (TX g (d+1) (s++lineW d [[115,116,97,116,105,99]] [32,123]++textL (d+1) ((l.take k).map srN)) wr∧FK g w wr));case atStart=>exact⟨0,by omega,rfl,hid ⟨by rw[List.take_zero,List.map_nil,textL,yF];exact H2.out.1,H2.out.2⟩⟩
 case round=>
  obtain⟨k,hk,rfl,HR⟩:=hrel;by_cases hlt:k<l.length;case neg=>
   have hkz:¬((k:Int)<(l.length:Int)):=by omega
   have E:=zBc (d+1) srN hlt;go_wp2_with fail;refine(close_tx HR.out.1 HR.out.2 (by rw[E];have:=HL.out;simp only[yA]at this⊢;omega)).mono ?_;rintro e w3 ⟨rfl,h3,k3⟩;have R:=hid (And.intro h3 k3);clear h3 k3;go_wp2_with fail;go_end0;refine⟨rfl,?_,R.out.2⟩;have:=R.out.1;rw[E]at this;rw[EL.out];simpa only[yE] using this
  have hkz:(k:Int)<(l.length:Int):=by omega
  obtain⟨gr,o,c', e',-,hgr,R0⟩:=SlV.elem (n:=7) (by decide) (fun _=>rfl) HV.out hlt;injection e' with e1 e2 e3
  subst e1 e3;have r1:=hid (zAg R0 ((HR.out.2.below (Nat.le_of_lt hg.out)).mono hB.out) hgr);clear R0 e2;have HX:=hid (hx.out _ (List.getElem_mem hlt));have ET:=hid (zAu (d+1) srN hlt);have HP:=hid (zAy (d+1) srN hlt);generalize l[k]=x at HX ET HP r1;go_upto_region 5 with(first|(refine zAa rfl 78 _ rfl rfl r1.out Tryz.rowSr Tryz.sizeSr ?_)|(refine zAd rfl 78 _ _ rfl rfl rfl (HasC.new wr _ _) rfl Tryz.sizeSr (Sr.one x) ?_;intro w4 hz1 hz2))
  obtain⟨p,hp⟩:∃zz,zz=s++lineW d [[115,116,97,116,105,99]] [32,123]++textL (d+1) ((l.take k).map srN):=⟨_,rfl⟩;have hb:=zAi hz2;have H4:Hid (XT 78 wr.heap.size x.C g (d+1) p w w4):=hid ⟨by rw[hp];exact HR.out.1.keep hb,hz1,HR.out.2.trans (.of_below hb),by have:=HR.out.1.lt;omega,by decide⟩;have HN:Hid (textN (d+1) (srN x)=lineW (d+1) [[114,111,117,116,101],pfxF x.pa x.pl] [32,123]++(textL ((d+1)+1) (srP 0 x)++(textL ((d+1)+1) (srP 1 x)++(textL ((d+1)+1) (srP 2 x))))++lineW (d+1) [] [125]):=hid (by rw[srN,zBm,srK];simp only[zBt]);have HM:Hid (p.length+(lineW (d+1) [[114,111,117,116,101],pfxF x.pa x.pl] [32,123]++(textL ((d+1)+1) (srP 0 x)++(textL ((d+1)+1) (srP 1 x)++(textL ((d+1)+1) (srP 2 x))))++lineW (d+1) [] [125]).length≤140737488355328):=hid (by rw[←HN.out,hp,yA];have h1:=HL.out;have h2:=HP.out;simp only[yA]at h1⊢;omega);clear hz1 hz2 r1 HR hb HP;generalize wr.heap.size=gx at H4⊢;obtain⟨hv,k1,k2,f1,f2⟩:=HX.out;obtain⟨c0,c1⟩:=bl2 H4.out.x;go_wp2_with fail;refine(zBo x.pa x.pl _ f1 (HE.out _ H4.out.k)).mono ?_;rintro e w1 ⟨rfl,hb⟩;have H1:=hid (H4.out.below hb);clear hb;go_wp2_with fail;refine(zEn H1.out [[114,111,117,116,101],pfxF x.pa x.pl] (by simp) (by have:=HM.out;simp only[yA]at this⊢;omega)).mono ?_;rintro e w5 ⟨rfl,h2,k2⟩;have H5:=hid h2;clear h2 k2 H1;clear H4 c0 c1;have c2:=cl2 H5.out.x;have c3:w5.cell? ⟨gx,3,none⟩=some (.string (str x.iface)):=H5.out.x.cell 3;go_upto_block 2 with fail
  go_cut [] (fun wx=>XT 78 gx x.C g ((d+1)+1) (p++lineW (d+1) [[114,111,117,116,101],pfxF x.pa x.pl] [32,123]++textL ((d+1)+1) (srP 0 x)) w wx)
  case first=>
   by_cases e1:x.next=0
   ·have d1:((x.next:Int) != 0)=false:=by rw[e1];rfl
    cases hc:(!x.iface.isEmpty)with
    |true=>
     have E:textL ((d+1)+1) (srP 0 x)=lineW ((d+1)+1) [[105,110,116,101,114,102,97,99,101],x.iface] [59]:=by rw[show srP 0 x=[goalN x]from rfl,zAz,goalN,e1,hc,zAn];rfl
     have hs:=zEx hc;clear e1;go_wp2_with fail;refine(zBd H5.out [[105,110,116,101,114,102,97,99,101],x.iface] (by simp) (by rw[←E];have:=HM.out;simp only[yA]at this⊢;omega)).mono ?_;rintro e w2 ⟨rfl,h2,k2⟩;have H2:=hid h2;clear h2 k2;go_wp2;go_meet;rw[E];exact H2.out
    |false=>
     have E:textL ((d+1)+1) (srP 0 x)=lineW ((d+1)+1) [[100,105,115,99,97,114,100]] [59]:=by rw[show srP 0 x=[goalN x]from rfl,zAz,goalN,e1,hc,zAn];rfl
     have hs:=zEy hc;clear e1;go_wp2_with fail;refine(zBd H5.out [[100,105,115,99,97,114,100]] (by simp) (by rw[←E];have:=HM.out;simp only[yA]at this⊢;omega)).mono ?_;rintro e w2 ⟨rfl,h2,k2⟩;have H2:=hid h2;clear h2 k2;go_wp2;go_meet;rw[E];exact H2.out
   ·have d1:((x.next:Int) != 0)=true:=by simp;omega
    have E:textL ((d+1)+1) (srP 0 x)=lineW ((d+1)+1) [[110,101,120,116,45,104,111,112],fmtA x.next] [59]:=by rw[show srP 0 x=[goalN x]from rfl,zAz,goalN,if_pos (by simpa using e1),zAn]
    clear e1;go_wp2_with fail;refine(zDa x.next _ f2 (HE.out _ H5.out.k)).mono ?_;rintro e w1 ⟨rfl,hb⟩;have H1:=hid (H5.out.below hb);clear hb;go_wp2_with fail;refine(zBd H1.out [[110,101,120,116,45,104,111,112],fmtA x.next] (by simp) (by rw[←E];have:=HM.out;simp only[yA]at this⊢;omega)).mono ?_;rintro e w2 ⟨rfl,h2,k2⟩;have H2:=hid h2;clear h2 k2;go_wp2;go_meet;rw[E];exact H2.out
  case rest=>
  clear H5 c2 c3;have H:=hid hcut;clear hcut;have c5:=cl5 H.out.x;have E6:textL ((d+1)+1) (srP 1 x)=lineW ((d+1)+1) [[112,114,101,102,101,114,101,110,99,101],decI x.admin] [59]:=by rw[show srP 1 x=[stn [[112,114,101,102,101,114,101,110,99,101],decI x.admin]]from rfl,zAz,zAn]
  go_wp2_with fail;refine(zCc x.admin (by omega) (by omega) _ (HE.out _ H.out.k)).mono ?_;rintro e w1 ⟨rfl,hb⟩;have H1:=hid (H.out.below hb);clear hb;go_wp2_with fail;refine(zBd H1.out [[112,114,101,102,101,114,101,110,99,101],decI x.admin] (by simp) (by rw[←E6];have:=HM.out;simp only[yA]at this⊢;omega)).mono ?_;rintro e w6 ⟨rfl,h2,k2⟩;rw[←E6]at h2;have H6:=hid h2;clear h2 k2 E6 H1;clear H c5;have c6:=cl6 H6.out.x;go_upto_if 54 with fail
  go_cut [] (fun wx=>XT 78 gx x.C g ((d+1)+1) (p++lineW (d+1) [[114,111,117,116,101],pfxF x.pa x.pl] [32,123]++textL ((d+1)+1) (srP 0 x)++textL ((d+1)+1) (srP 1 x)++textL ((d+1)+1) (srP 2 x)) w wx)
  case first=>
   cases hc:(!(x.tag==0))with
   |true=>
    have E:textL ((d+1)+1) (srP 2 x)=lineW ((d+1)+1) [[116,97,103],decI x.tag] [59]:=zAq hc;have hs:(x.tag != 0)=true:=hc;rw[hs];go_wp2_with fail;refine(zCc x.tag (by omega) (by omega) _ (HE.out _ H6.out.k)).mono ?_;rintro e w1 ⟨rfl,hb⟩;have H1:=hid (H6.out.below hb);clear hb;go_wp2_with fail;refine(zBd H1.out [[116,97,103],decI x.tag] (by simp) (by rw[←E];have:=HM.out;simp only[yA]at this⊢;omega)).mono ?_;rintro e w2 ⟨rfl,h2,k2⟩;have H2:=hid h2;clear h2 k2;go_wp2;go_meet;rw[E];exact H2.out
   |false=>
    have hs:(x.tag != 0)=false:=hc;rw[hs];go_wp2;go_meet;rw[show textL ((d+1)+1) (srP 2 x)=[]from zAl hc,yF];exact H6.out
  case rest=>
  clear H6 c6;have H:=hid hcut;clear hcut;go_wp2_with fail;refine(zFp H.out (by have:=HM.out;simp only[yA]at this⊢;omega)).mono ?_;rintro e w7 ⟨rfl,h2,k2⟩;have H7:=hid h2;clear h2 k2;clear H;go_wp2;go_roundg (l.length - (k+1));case measure=>omega
  case rel=>
   refine⟨k+1,by omega,by go_num,hid ⟨?_,H7.out.k⟩⟩;have:=H7.out.t;rw[hp]at this;rw[ET.out,HN.out];simpa only[yE] using this
theorem zKj(r:Rt):textL 0 (fmtN r)=lineW 0 [[115,121,115,116,101,109]] [32,123]++(lineW 1 [[104,111,115,116,45,110,97,109,101],r.name] [59]++(textL 1 (sysP 1 r)++(lineW 0 [] [125]++(textL 0 (ifsN r.ifs)++((textL 0 (r.lists.map listN)++(textL 0 (r.maps.map mapN)++textL 0 (r.acls.map aclN)))++(textL 0 (natN r.nat)++(textL 0 (statN r.stat)++(textL 0 (lsN r)++(textL 0 (dvN r)++(textL 0 (pvN r))))))))))):=by
 simp only[fmtN,sysN,zBt,zAz,zBm,sysP,zAn,yE]
theorem format_walk(r:Rt)(w:World)(B:Nat)(h:r.at w B)(hB:B≤w.heap.size)(hf:r.fit)(he:EnvA w.heap.size w) :
  Calls Tryz.prog 14 #[.agg r.C] w fun e w' => e=.returned (.tuple #[.string (str (zJw zBw r).1),.int .i64 (zJw zBw r).2])∧Below w.heap.size w w' := by
 have H0:=hid (RB.start r w);have HR:=hid h;have HE:=hid he;have HBB:=hid hB;have HF:=hid hf;obtain⟨F,hF⟩:∃F,zJw zBw r=F:=⟨_,rfl⟩;rw[hF];replace hF:=hid hF.symm;clear h hB he hf;go_enter Tryz.func14,Tryz.ntmps14;go_wp2_with (first|(refine zAa rfl 41 _ rfl rfl H0.out.h.range Tryz.rowRt Tryz.sizeRt ?_));refine(zIr r _ B (HR.out.below (H0.out.b.mono HBB.out)) (yJ HBB.out H0.out.b.size) HF.out).mono ?_;rintro e w6 ⟨rfl,hb⟩;have H6:=hid (H0.out.keep hb);clear hb H0;by_cases hv:zBw r=0;case neg=>
  have E:F=([],zBw r):=hF.out.trans (if_neg hv);clear hF;have dn:(zBw r != 0)=true:=by simpa using hv
  clear hv;generalize zBw r=x at E dn⊢;subst E;go_wp2_with fail;go_ret2;exact⟨rfl,H6.out.b⟩
 have HV:=hid (zLk hv HF.out);have HX:Hid (F=if 65536<(textL 0 (fmtN r)).length then([],7)else(textL 0 (fmtN r),0)):=hid (hF.out.trans (if_pos hv));have HL:Hid ((textL 0 (fmtN r)).length≤140737488355328):=hid (yJ (zJj hv HF.out) (by decide));rw[hv];clear hF hv HF;rw[zKj]at HL;go_upto_region 5 with fail
 have HK0:Hid (∀W,FK w6.heap.size (w6.alloc (.cells #[.pointer none,.slice none 0 0,.int .i64 0] 94)) W→Below w.heap.size w W):=hid fun W hk=>
  H6.out.b.trans (((Below.refl w6.heap.size w6).alloc (yI _) (.cells #[.pointer none,.slice none 0 0,.int .i64 0] 94)).trans (hk.below (by show _≤(w6.heap.push _).size;rw[Array.size_push];omega)) |>.mono H6.out.b.size)
 have H:Hid (XT 41 w.heap.size r.C w6.heap.size 0 [] (w6.alloc (.cells #[.pointer none,.slice none 0 0,.int .i64 0] 94)) (w6.alloc (.cells #[.pointer none,.slice none 0 0,.int .i64 0] 94))) :=
  hid ⟨⟨.pointer none,.slice none 0 0,.inl rfl,HasC.new w6 _ _,rfl,.inl ⟨rfl,rfl⟩⟩,H6.out.h.keep ((Below.refl w6.heap.size w6).alloc (yI _) (.cells #[.pointer none,.slice none 0 0,.int .i64 0] 94)),FK.refl _ _,by have:=zBj H6.out.h;omega,by decide⟩
 have hsz:w.heap.size≤w6.heap.size:=H6.out.b.size;clear H6;generalize w6.alloc (.cells #[.pointer none,.slice none 0 0,.int .i64 0] 94)=wt at H HK0⊢;generalize w6.heap.size=g at H HK0 hsz⊢;have HEA:Hid (∀W,FK g wt W→EnvA g W):=hid fun W hk=>(HE.out.keep (HK0.out W hk)).up hsz
 have HEE:Hid (∀W,FK g wt W→Env W):=hid fun W hk=>(HEA.out W hk).1
 have HRT:Hid (∀W,FK g wt W→r.at W B):=hid fun W hk=>HR.out.below ((HK0.out W hk).mono HBB.out)
 have hBg:=hid (yJ HBB.out hsz);clear HE HR HBB;replace hsz:=hid hsz;obtain⟨gx,hgx⟩:∃gx,w.heap.size=gx:=⟨_,rfl⟩;rw[hgx]at H HK0 hsz⊢;go_wp2_with fail;refine(zEn H.out [[115,121,115,116,101,109]] (by simp) (by have:=HL.out;simp only[yA,yH,Nat.zero_add]at this⊢;omega)).mono ?_;rintro e w1 ⟨rfl,h2,k2⟩;have H1:=hid h2;clear h2 k2 H;have c0:w1.cell? ⟨gx,0,none⟩=some (.string (str r.name)):=H1.out.x.cell 0;go_wp2_with fail;refine(zBd H1.out [[104,111,115,116,45,110,97,109,101],r.name] (by simp) (by have:=HL.out;simp only[yA,yH,Nat.zero_add]at this⊢;omega)).mono ?_;rintro e w2 ⟨rfl,h2,k2⟩;have H:=hid h2;clear h2 k2 H1 c0;have c1:=cl1 H.out.x;go_upto_if 23 with fail
 go_cut [] (fun wx=>XT 41 gx r.C g 1 ([]++lineW 0 [[115,121,115,116,101,109]] [32,123]++lineW 1 [[104,111,115,116,45,110,97,109,101],r.name] [59]++textL 1 (sysP 1 r)) wt wx)
 case first=>
  cases hc:(!(r.asn==0))with
  |true=>
   have E:textL 1 (sysP 1 r)=lineW 1 [[97,117,116,111,110,111,109,111,117,115,45,115,121,115,116,101,109],decI r.asn] [59]:=zAq hc;have hs:(r.asn != 0)=true:=hc;rw[hs];go_wp2_with fail;refine(zCc r.asn HV.out.asn.1 (by have:=HV.out.asn.2;omega) _ (HEE.out _ H.out.k)).mono ?_;rintro e w3 ⟨rfl,hb⟩;have H1:=hid (H.out.below hb);clear hb;go_wp2_with fail;refine(zBd H1.out [[97,117,116,111,110,111,109,111,117,115,45,115,121,115,116,101,109],decI r.asn] (by simp) (by rw[←E];have:=HL.out;simp only[yA,yH,Nat.zero_add]at this⊢;omega)).mono ?_;rintro e w4 ⟨rfl,h2,k2⟩;have H2:=hid h2;clear h2 k2;go_wp2;go_meet;rw[E];exact H2.out
  |false=>
   have hs:(r.asn != 0)=false:=hc;rw[hs];go_wp2;go_meet;rw[show textL 1 (sysP 1 r)=[]from zAl hc,yF];exact H.out
 case rest=>
 clear H c1;have H:=hid hcut;clear hcut;go_wp2_with fail;refine(zFp H.out (by have:=HL.out;simp only[yA,yH,Nat.zero_add]at this⊢;omega)).mono ?_;rintro e w1 ⟨rfl,h2,k2⟩;have H1:=hid h2;clear h2 k2 H;have cc:=cl2 H1.out.x;go_wp2_with (fail);refine(fifaces_any g 0 _ r.ifs r.ifsV _ B H1.out.t (HEA.out _ H1.out.k) hBg.out (HRT.out _ H1.out.k).hifs HV.out.ifs (by have:=HL.out;simp only[yA,yH,Nat.zero_add]at this⊢;omega)).mono ?_;rintro e w2 ⟨rfl,h2,k2⟩;have H2:=hid (H1.out.go h2 k2);clear h2 k2 H1 cc;have cc:=H2.out.x.range;go_wp2_with (first|(refine zAa rfl 41 _ rfl rfl cc Tryz.rowRt Tryz.sizeRt ?_));refine(flists_any g 0 _ r _ B H2.out.t (HEA.out _ H2.out.k) hBg.out (HRT.out _ H2.out.k) HV.out.lists HV.out.maps HV.out.acls (by have:=HL.out;simp only[yA,yH,Nat.zero_add]at this⊢;omega)).mono ?_;rintro e w3 ⟨rfl,h2,k2⟩;have H3:=hid (H2.out.go h2 k2);clear h2 k2 H2 cc;have cc:=cl6 H3.out.x;go_wp2_with (fail);refine(ftrans_any g 0 _ r.nat r.natV _ B H3.out.t (HEA.out _ H3.out.k) hBg.out (HRT.out _ H3.out.k).hnat HV.out.nat (by have:=HL.out;simp only[yA,yH,Nat.zero_add]at this⊢;omega)).mono ?_;rintro e w4 ⟨rfl,h2,k2⟩;have H4:=hid (H3.out.go h2 k2);clear h2 k2 H3 cc;have cc:=cl7 H4.out.x;go_wp2_with (fail);refine(fstatics_any g 0 _ r.stat r.statV _ B H4.out.t (HEA.out _ H4.out.k) hBg.out (HRT.out _ H4.out.k).hstat HV.out.stat (by have:=HL.out;simp only[yA,yH,Nat.zero_add]at this⊢;omega)).mono ?_;rintro e w5 ⟨rfl,h2,k2⟩;have H5:=hid (H4.out.go h2 k2);clear h2 k2 H4 cc;have cc:=HasC.sub H5.out.x 8 #[.bool r.lsOn,.int .i64 r.lsAdmin,r.rangesV,r.lsRedV] (by intro j hj;have hj:j<4:=hj;rcases(show j=0∨j=1∨j=2∨j=3 by omega)with rfl|rfl|rfl|rfl<;>rfl);go_wp2_with (first|(refine zAa rfl 31 _ rfl rfl cc Tryz.rowLS Tryz.sizeLS ?_));refine(fls_any g 0 _ r _ B H5.out.t (HEA.out _ H5.out.k) hBg.out (HRT.out _ H5.out.k).hranges (HRT.out _ H5.out.k).hlsRed HV.out.ls (by have:=HL.out;simp only[yA,yH,Nat.zero_add]at this⊢;omega)).mono ?_;rintro e w6 ⟨rfl,h2,k2⟩;have H6:=hid (H5.out.go h2 k2);clear h2 k2 H5 cc;have cc:=HasC.sub H6.out.x 12 #[.bool r.dvOn,.int .i64 r.dvAdmin,strV r.dvIn,strV r.dvOut,r.dvRedV] (by intro j hj;have hj:j<5:=hj;rcases(show j=0∨j=1∨j=2∨j=3∨j=4 by omega)with rfl|rfl|rfl|rfl|rfl<;>rfl);go_wp2_with (first|(refine zAa rfl 33 _ rfl rfl cc Tryz.rowDV Tryz.sizeDV ?_));refine(fdv_any g 0 _ r _ B H6.out.t (HEA.out _ H6.out.k) hBg.out (HRT.out _ H6.out.k).hdvRed HV.out.dv (by have:=HL.out;simp only[yA,yH,Nat.zero_add]at this⊢;omega)).mono ?_;rintro e w7 ⟨rfl,h2,k2⟩;have H7:=hid (H6.out.go h2 k2);clear h2 k2 H6 cc;have cc:=HasC.sub H7.out.x 17 r.pvC (by intro j hj;have hj:j<8:=hj;rcases(show j=0∨j=1∨j=2∨j=3∨j=4∨j=5∨j=6∨j=7 by omega)with rfl|rfl|rfl|rfl|rfl|rfl|rfl|rfl<;>rfl);go_wp2_with (first|(refine zAa rfl 39 _ rfl rfl cc Tryz.rowPV Tryz.sizePV ?_));refine(fpv_any g 0 _ r _ B H7.out.t (HEA.out _ H7.out.k) hBg.out (HRT.out _ H7.out.k).hnb (HRT.out _ H7.out.k).hnet (HRT.out _ H7.out.k).hag (HRT.out _ H7.out.k).hcd (HRT.out _ H7.out.k).hpvRed HV.out.pv (by have:=HL.out;simp only[yA,yH,Nat.zero_add]at this⊢;omega)).mono ?_;rintro e w8 ⟨rfl,h2,k2⟩;have H8:=hid (H7.out.go h2 k2);clear h2 k2 H7 cc;have HT:Hid (XT 41 gx r.C g 0 (textL 0 (fmtN r)) wt w8):=hid (by rw[zKj];have:=H8.out;simpa only[List.nil_append,yE] using this);clear H8 HV HEA HEE HRT HL;go_wp2_with fail;refine(bxLen_any HT.out.t).mono ?_;rintro e w9 ⟨rfl,hw⟩;subst w9;by_cases hl:65536<(textL 0 (fmtN r)).length;case pos=>
  have E:F=([],7):=HX.out.trans (if_pos hl);subst E;have hlz:(65536:Int)<((textL 0 (fmtN r)).length:Int):=by omega
  have HB:=hid (HK0.out _ HT.out.k);clear HX HT hl HK0;generalize ((textL 0 (fmtN r)).length:Int)=n at *;go_wp2_with fail;go_ret2;exact⟨rfl,HB.out⟩
 have E:F=(textL 0 (fmtN r),0):=HX.out.trans (if_neg hl);have hlz:¬(65536:Int)<((textL 0 (fmtN r)).length:Int):=by omega
 have hne:Hid (textL 0 (fmtN r)≠[]):=hid (by rw[zKj,lineW];simp);clear HX hl;generalize textL 0 (fmtN r)=t at E hlz hne HT⊢;subst E;go_wp2_with fail;refine(bxStr_any HT.out.t hne.out).mono ?_;rintro e w9 ⟨rfl,hb⟩;have HB:=hid ((HK0.out _ HT.out.k).trans (hb.mono hsz.out));clear hb HT HK0;go_wp2_with fail;go_ret2;exact⟨rfl,HB.out⟩
end Go.Proofs.YtdlgnhefpoalnaaGreatDoor
