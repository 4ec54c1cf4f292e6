/- netverifylaw5.Small answers yes or no; where it answers yes, the lists of the path-vector's part are short. Condition: the router lies in memory. -/
import Derived.Test.YthcnojmldldpeaaGreatDoorGap
namespace Go.Proofs.YthcnojmldldpeaaGreatDoor
open Lib (hid)
open Go.RowKit
section
variable {P : Program} {ops : Array Oper} {Q : Exit → Act → World → Prop} {w : World} {Z k : Nat} {pt : Value} {b : Bool} {a : Act} {rest : List Oper}
def Sl(Z k:Nat)(pt:Value)(b:Bool)(a:Act):Prop:=a.tmps.size=Z∧a.tmps[1]? = some pt∧a.tmps[k]? = some (.bool b)
theorem ev_of{s:Nat}{q:Value}(h:a.tmps[s]? = some q):a.eval (.tmp s)=q:=by
 show a.tmps.getD s undef=q;rw[Array.getD_eq_getD_getElem?,h];rfl
theorem sm_put{d:Nat}{v:Value}(h:d<a.tmps.size):(a.put (some d) v).tmps[d]? = some v:=by
 show(a.tmps.setIfInBounds d v)[d]? = some v;simp[h]
theorem put_ne{d e:Nat}{v:Value}(h:d≠e):(a.put (some d) v).tmps[e]? = a.tmps[e]?:=by
 show(a.tmps.setIfInBounds d v)[e]? = _;rw[Array.getElem?_setIfInBounds_ne h]
theorem Sl.put{d:Nat}{v:Value}(H:Sl Z k pt b a)(h1:d≠1)(hk:d≠k):Sl Z k pt b (a.put (some d) v) :=
 ⟨by rw[←H.1];exact Array.size_setIfInBounds,(put_ne h1).trans H.2.1,(put_ne hk).trans H.2.2⟩
theorem wanted_key{o:Oper}{gi:Nat}(hg:o.guard=some (gi,false))(hi:(ops[gi]?).bind (·.dst)=some k)(t:Array Value)(h:t[k]? = some (.bool b)):Region.wanted o (yielded ops t) = !b:=by
 unfold Region.wanted yielded;rw[hg];simp only[hi,Option.bind_some,h];cases b<;>rfl
theorem sm_op(d s:Nat){o:Oper}{q:Value}(p:Value){f:Act}(E:Hid (a=f))(H:Hid (Sl Z k pt b a))(hs:Hid (b=false→a.tmps[s]? = some q))(hd:o.dst=some d)(hw:∀t:Array Value,t[k]? = some (.bool b)→Region.wanted o (yielded ops t) = !b)(hb:d≠1∧d≠k∧d<Z)
  (hv:∀ev:Operand→Value,(∀v,ev (.const v)=v)→ev (.tmp s)=q→(execOp ev o).run P w=.ok (.value p) w) (h:∀x a', Hid (a' = f.put (some d) x)→Hid (Sl Z k pt b a')→Hid (b=false→a'.tmps[d]? = some p)→wpList P ops Q rest a' w):wpList P ops Q (o :: rest) a w:=by
 replace H:=H.out;replace hs:=hs.out;have E:=E.out;subst E;have hq:=hw a.tmps H.2.2;unfold wpList;cases b with
 |true=>rw[if_neg (by rw[hq];decide),hd];exact h _ _ (hid rfl) (hid (H.put hb.1 hb.2.1)) (hid fun e=>by cases e)
 |false=>
  replace hq:Region.wanted o (yielded ops a.tmps)=true:=hq;rw[if_pos hq];refine .inl ?_;unfold Oper.wp;rw[hv _ (fun _=>rfl) (ev_of (hs rfl))];show wpList P ops Q rest (a.put o.dst p) w;rw[hd];exact h p _ (hid rfl) (hid (H.put hb.1 hb.2.1)) (hid fun _=>sm_put (by rw[H.1];exact hb.2.2))
theorem sl_value{o:Oper}{v:Value}(hg:o.guard=none)(hv:(execOp a.eval o).run P w=.ok (.value v) w)(h:wpList P ops Q rest (a.put o.dst v) w):wpList P ops Q (o :: rest) a w:=by
 unfold wpList;rw[if_pos (by unfold Region.wanted;rw[hg])];refine .inl ?_;unfold Oper.wp;rw[hv];exact h
theorem sm_last{φ:Prop}(d5 d4:Nat){o5:Oper}{c:Bool}{f:Act}(E:Hid (a=f))(F:Hid (b=false→φ))(H:Hid (Sl Z k pt b a))(hs:Hid (b=false→a.tmps[d4]? = some (.bool c)))(h5:o5.dst=some d5∧o5.guard=none∧o5.op=.pick (.tmp k) (.const (.bool true)) (.tmp d4))(hz:d5<Z∧d5≠1)
  (h:∀e a', Hid (a' = f.put (some d5) (.bool e))→Hid (Sl Z d5 pt e a')→Hid (e=false→φ∧c=false)→wpList P ops Q rest a' w):wpList P ops Q (o5 :: rest) a w:=by
 replace H:=H.out;replace hs:=hs.out;have E:=E.out;subst E;refine sl_value h5.2.1 (v:=.bool (b||c)) ?_ ?_
 ·have hk:=ev_of H.2.2
  unfold execOp;rw[h5.2.2];cases b with
  |true=>
   have hc:a.eval (.const (.bool true))=.bool true:=rfl;generalize a.eval=ev at hk hc;simp[go_sem,hk,hc]
  |false=>
   have h4:=ev_of (hs rfl);generalize a.eval=ev at hk h4;simp[go_sem,hk,h4]
 ·rw[h5.1]
  exact h _ _ (hid rfl) (hid ⟨by rw[←H.1];exact Array.size_setIfInBounds,(put_ne hz.2).trans H.2.1,sm_put (by rw[H.1];exact hz.1)⟩) (hid fun e=>by rw[Bool.or_eq_false_iff]at e;exact⟨F.out e.1,e.2⟩)
theorem sm_or{φ:Prop}(d6 d5 d4:Nat){o5 o6:Oper}{c:Bool}{f:Act}(E:Hid (a=f))(F:Hid (b=false→φ))(H:Hid (Sl Z k pt b a))(hs:Hid (b=false→a.tmps[d4]? = some (.bool c)))(h5:o5.dst=some d5∧o5.guard=none∧o5.op=.pick (.tmp k) (.const (.bool true)) (.tmp d4))(h6:o6.dst=some d6∧o6.guard=none∧o6.op=.move (.tmp d5))(hz:(d5<Z∧d5≠1)∧d6<Z∧d6≠1)
  (h:∀e a', Hid (a' = (f.put (some d5) (.bool e)).put (some d6) (.bool e))→Hid (Sl Z d6 pt e a')→Hid (e=false→φ∧c=false)→wpList P ops Q rest a' w):wpList P ops Q (o5 :: o6 :: rest) a w:=by
 refine sm_last d5 d4 E F H hs h5 hz.1 fun e a5 E5 H5 F5=>?_
 replace H5:=H5.out;have E5:=E5.out;subst E5;refine sl_value h6.2.1 (v:=.bool e) ?_ ?_
 ·have hk:=ev_of H5.2.2
  unfold execOp;rw[h6.2.2];generalize (f.put (some d5) (.bool e)).eval=ev at hk;simp[go_sem,hk]
 ·rw[h6.1]
  exact h _ _ (hid rfl) (hid ⟨by rw[←H5.1];exact Array.size_setIfInBounds,(put_ne hz.2.2).trans H5.2.1,sm_put (by rw[H5.1];exact hz.2.1)⟩) F5
end
set_option maxRecDepth 100000 in
set_option maxHeartbeats 8000000 in
theorem small_any(r:Rt)(w:World)(B:Nat)(hB:B≤w.heap.size)(h:r.at w B):Calls Tryz.prog 4 #[.agg r.C] w fun e w' => (e=.returned (.bool false)∨(e=.returned (.bool true)∧r.nb.length+r.net.length+r.ag.length+r.cd.length+r.pvRed.length≤1000000))∧Below w.heap.size w w' := by
 have HBB:=hid hB;have H0:=hid (RB.start r w);obtain⟨A0,k0,v0,-⟩:=id h.hifs;have q0:(w.alloc (.cells r.C 41)).cell? ⟨w.heap.size,2,none⟩=some (.slice A0 r.ifs.length k0):=by rw[←v0];exact H0.out.h.cell 2
 obtain⟨A1,k1,v1,-⟩:=id h.hlists;have q1:(w.alloc (.cells r.C 41)).cell? ⟨w.heap.size,3,none⟩=some (.slice A1 r.lists.length k1):=by rw[←v1];exact H0.out.h.cell 3
 obtain⟨A2,k2,v2,-⟩:=id h.hmaps;have q2:(w.alloc (.cells r.C 41)).cell? ⟨w.heap.size,4,none⟩=some (.slice A2 r.maps.length k2):=by rw[←v2];exact H0.out.h.cell 4
 obtain⟨A3,k3,v3,-⟩:=id h.hacls;have q3:(w.alloc (.cells r.C 41)).cell? ⟨w.heap.size,5,none⟩=some (.slice A3 r.acls.length k3):=by rw[←v3];exact H0.out.h.cell 5
 obtain⟨A4,k4,v4,-⟩:=id h.hnat;have q4:(w.alloc (.cells r.C 41)).cell? ⟨w.heap.size,6,none⟩=some (.slice A4 r.nat.length k4):=by rw[←v4];exact H0.out.h.cell 6
 obtain⟨A5,k5,v5,-⟩:=id h.hstat;have q5:(w.alloc (.cells r.C 41)).cell? ⟨w.heap.size,7,none⟩=some (.slice A5 r.stat.length k5):=by rw[←v5];exact H0.out.h.cell 7
 obtain⟨A6,k6,v6,-⟩:=id h.hranges;have q6:(w.alloc (.cells r.C 41)).cell? ⟨w.heap.size,10,none⟩=some (.slice A6 r.ranges.length k6):=by rw[←v6];exact H0.out.h.cell 10
 obtain⟨A7,k7,v7,-⟩:=id h.hlsRed;have q7:(w.alloc (.cells r.C 41)).cell? ⟨w.heap.size,11,none⟩=some (.slice A7 r.lsRed.length k7):=by rw[←v7];exact H0.out.h.cell 11
 obtain⟨A8,k8,v8,-⟩:=id h.hdvRed;have q8:(w.alloc (.cells r.C 41)).cell? ⟨w.heap.size,16,none⟩=some (.slice A8 r.dvRed.length k8):=by rw[←v8];exact H0.out.h.cell 16
 obtain⟨A9,k9,v9,-⟩:=id h.hpvRed;have q9:(w.alloc (.cells r.C 41)).cell? ⟨w.heap.size,24,none⟩=some (.slice A9 r.pvRed.length k9):=by rw[←v9];exact H0.out.h.cell 24
 obtain⟨A10,k10,v10,-⟩:=id h.hnb;have q10:(w.alloc (.cells r.C 41)).cell? ⟨w.heap.size,20,none⟩=some (.slice A10 r.nb.length k10):=by rw[←v10];exact H0.out.h.cell 20
 obtain⟨A11,k11,v11,-⟩:=id h.hnet;have q11:(w.alloc (.cells r.C 41)).cell? ⟨w.heap.size,21,none⟩=some (.slice A11 r.net.length k11):=by rw[←v11];exact H0.out.h.cell 21
 obtain⟨A12,k12,v12,-⟩:=id h.hag;have q12:(w.alloc (.cells r.C 41)).cell? ⟨w.heap.size,22,none⟩=some (.slice A12 r.ag.length k12):=by rw[←v12];exact H0.out.h.cell 22
 obtain⟨A13,k13,v13,-⟩:=id h.hcd;have q13:(w.alloc (.cells r.C 41)).cell? ⟨w.heap.size,23,none⟩=some (.slice A13 r.cd.length k13):=by rw[←v13];exact H0.out.h.cell 23
 have G1:Hid (∀W,RB r w W→W.cell? ⟨w.heap.size,3,none⟩=some (.slice A1 r.lists.length k1)):=hid fun W h=>by rw[←v1];exact h.h.cell 3
 have S1:=hid (show SlV w B 2 PList.C (.slice A1 r.lists.length k1) r.lists by rw[←v1];exact h.hlists);have N1:=hid h.nlists;have m1:=h.hlists.len;simp only[maxLen]at m1;have G2:Hid (∀W,RB r w W→W.cell? ⟨w.heap.size,4,none⟩=some (.slice A2 r.maps.length k2)):=hid fun W h=>by rw[←v2];exact h.h.cell 4
 have S2:=hid (show SlV w B 2 RMap.C (.slice A2 r.maps.length k2) r.maps by rw[←v2];exact h.hmaps);have N2:=hid h.nmaps;have m2:=h.hmaps.len;simp only[maxLen]at m2;have G3:Hid (∀W,RB r w W→W.cell? ⟨w.heap.size,5,none⟩=some (.slice A3 r.acls.length k3)):=hid fun W h=>by rw[←v3];exact h.h.cell 5
 have S3:=hid (show SlV w B 2 AList.C (.slice A3 r.acls.length k3) r.acls by rw[←v3];exact h.hacls);have N3:=hid h.nacls;have m3:=h.hacls.len;simp only[maxLen]at m3;clear h hB v0 v1 v2 v3 v4 v5 v6 v7 v8 v9 v10 v11 v12 v13;go_enter Tryz.func4,Tryz.ntmps4;go_upto_region 1 with fail
 generalize hwz:w.alloc (.cells r.C 41)=wz at *;refine wp_region_list ?_;simp only[List.append_eq,List.cons_append,List.nil_append];refine sm_op (Z:=141) (k:=2) (b:=false) 6 1 ?_ (hid rfl) (hid ⟨rfl,rfl,rfl⟩) (hid fun _=>rfl) rfl (fun _ _=>rfl) (by decide) ?_ ?_;rotate_left
 ·intro ev hc h;go_simp<;>rfl
 intro x a2 E X y
 iterate 4 (refine sm_op _ _ ?_ E X y rfl (fun _ _=>rfl) (by decide) ?_ ?_;rotate_left;(· (intro ev hc h;go_simp<;>rfl));intro x a2 E' X' y';clear E X y;have E:=E';have X:=X';have y:=y';clear E' X' y')
 obtain⟨e,he⟩:∃e,decide ((12:Int)<r.ifs.length)=e:=⟨_,rfl⟩;have X' : Hid (Sl 141 10 (.pointer (some ⟨w.heap.size,0,none⟩)) e _):=hid ⟨X.out.1,X.out.2.1,by rw[←he];exact y.out rfl⟩;have F:Hid (e=false→True):=hid fun _=>trivial
 clear X y he;have X:=X';have y:Hid (e=false→True):=F;clear X'
 repeat
  (first
   |(refine sm_op _ 1 ?_ E X (hid fun _=>X.out.2.1) rfl (wanted_key rfl rfl) (by decide) ?_ ?_;rotate_left;(· (intro ev hc h;go_simp<;>rfl));intro x a2 E' X' y';clear E X y;have E:=E';have X:=X';have y:=y';clear E' X' y')
   |(refine sm_op _ _ ?_ E X y rfl (wanted_key rfl rfl) (by decide) ?_ ?_;rotate_left;(· (intro ev hc h;go_simp<;>rfl));intro x a2 E' X' y';clear E X y;have E:=E';have X:=X';have y:=y';clear E' X' y')
   |(refine sm_or _ _ _ E F X y ⟨rfl,rfl,rfl⟩ ⟨rfl,rfl,rfl⟩ (by decide) ?_;intro e a2 E' X' F';clear E X y F;have E:=E';have X:=X';have F:=F';clear E' X' F';have y:=F))
 refine sm_last _ _ E F X y ⟨rfl,rfl,rfl⟩ (by decide) ?_;intro bb a2 E2 X2 F2;unfold wpList
 have FIN:bb=false→r.nb.length+r.net.length+r.ag.length+r.cd.length+r.pvRed.length≤1000000:=fun h=>by
  have:=F2.out h;simp at this;omega
 clear X X2 y F F2 E;rw[E2.out];simp only[Act.put,List.setIfInBounds_toArray,List.set_cons_zero,List.set_cons_succ];clear E2;clear q0 q1 q2 q3 q4 q5 q6 q7 q8 q9 q10 q11 q12 q13;cases bb with
 |true=>
  go_wp2;go_ret;exact⟨.inl rfl,H0.out.b⟩
 |false=>
 have FI:=hid (FIN rfl);clear FIN;go_wp2;go_loopg [3] r.lists.length (fun gh ix wr=>∃k:Nat,k+gh=r.lists.length∧ix=.int .i64 k∧Hid (RB r w wr));case atStart=>exact⟨0,by omega,rfl,H0⟩
 case round=>
  clear H0;obtain⟨k,hk,rfl,H0⟩:=hrel;have cl:=G1.out wr H0.out;by_cases hlt:k<r.lists.length;case pos=>
   have hkz:(k:Int)<(r.lists.length:Int):=by omega
   obtain⟨g,o,c', e',-,hg,R0⟩:=S1.out.elem (n:=2) (by decide) (fun _=>rfl) hlt;injection e' with e1 e2 e3
   subst e1 e3;obtain⟨Ax,kx,vx,-⟩:=id (N1.out _ (List.getElem_mem hlt));have x1:wr.cell? ⟨g,o+k*2+1,none⟩=some (.slice Ax r.lists[k].rules.length kx):=by rw[←vx];exact zAf R0 (H0.out.b.mono HBB.out) hg 1 _ rfl
   clear R0 e2 vx;generalize r.lists[k].rules.length=nx at x1;by_cases d:(20:Int)<(nx:Int)
   ·go_wp2_with fail
    go_ret;exact⟨.inl rfl,H0.out.b⟩
   go_wp2;go_roundg (r.lists.length - (k+1));case measure=>omega
   case rel=>exact⟨k+1,by omega,by go_num,H0⟩
  have hkz:¬((k:Int)<(r.lists.length:Int)):=by omega
  have cl2:=G2.out wr H0.out;go_wp2_with fail;clear cl cl2 hkz hlt;go_loopg [4] r.maps.length (fun gh ix wr=>∃k:Nat,k+gh=r.maps.length∧ix=.int .i64 k∧Hid (RB r w wr));case atStart=>exact⟨0,by omega,rfl,H0⟩
  case round=>
   clear H0;obtain⟨k,hk,rfl,H0⟩:=hrel;have cl:=G2.out wr H0.out;by_cases hlt:k<r.maps.length;case pos=>
    have hkz:(k:Int)<(r.maps.length:Int):=by omega
    obtain⟨g,o,c', e',-,hg,R0⟩:=S2.out.elem (n:=2) (by decide) (fun _=>rfl) hlt;injection e' with e1 e2 e3
    subst e1 e3;obtain⟨Ax,kx,vx,-⟩:=id (N2.out _ (List.getElem_mem hlt));have x1:wr.cell? ⟨g,o+k*2+1,none⟩=some (.slice Ax r.maps[k].clauses.length kx):=by rw[←vx];exact zAf R0 (H0.out.b.mono HBB.out) hg 1 _ rfl
    clear R0 e2 vx;generalize r.maps[k].clauses.length=nx at x1;by_cases d:(12:Int)<(nx:Int)
    ·go_wp2_with fail
     go_ret;exact⟨.inl rfl,H0.out.b⟩
    go_wp2;go_roundg (r.maps.length - (k+1));case measure=>omega
    case rel=>exact⟨k+1,by omega,by go_num,H0⟩
   have hkz:¬((k:Int)<(r.maps.length:Int)):=by omega
   have cl2:=G3.out wr H0.out;go_wp2_with fail;clear cl cl2 hkz hlt;go_loopg [5] r.acls.length (fun gh ix wr=>∃k:Nat,k+gh=r.acls.length∧ix=.int .i64 k∧Hid (RB r w wr));case atStart=>exact⟨0,by omega,rfl,H0⟩
   case round=>
    clear H0;obtain⟨k,hk,rfl,H0⟩:=hrel;have cl:=G3.out wr H0.out;by_cases hlt:k<r.acls.length;case pos=>
     have hkz:(k:Int)<(r.acls.length:Int):=by omega
     obtain⟨g,o,c', e',-,hg,R0⟩:=S3.out.elem (n:=2) (by decide) (fun _=>rfl) hlt;injection e' with e1 e2 e3
     subst e1 e3;obtain⟨Ax,kx,vx,-⟩:=id (N3.out _ (List.getElem_mem hlt));have x1:wr.cell? ⟨g,o+k*2+1,none⟩=some (.slice Ax r.acls[k].rules.length kx):=by rw[←vx];exact zAf R0 (H0.out.b.mono HBB.out) hg 1 _ rfl
     clear R0 e2 vx;generalize r.acls[k].rules.length=nx at x1;by_cases d:(20:Int)<(nx:Int)
     ·go_wp2_with fail
      go_ret;exact⟨.inl rfl,H0.out.b⟩
     go_wp2;go_roundg (r.acls.length - (k+1));case measure=>omega
     case rel=>exact⟨k+1,by omega,by go_num,H0⟩
    have hkz:¬((k:Int)<(r.acls.length:Int)):=by omega
    go_wp2;go_ret;exact⟨.inr ⟨rfl,FI.out⟩,H0.out.b⟩
end Go.Proofs.YthcnojmldldpeaaGreatDoor
