/- The reference's FormatAlpha: the walk of alphaLists. Conditions: the text is at most 2^47 bytes; addresses are numbers below 2^32. -/
import Derived.Test.YthcnojmldldpeaaGreatDoorGam
import Derived.Test.YthcnojmldldpeaaGreatDoorGai
set_option maxHeartbeats 8000000
set_option maxRecDepth 100000
namespace Go.Proofs.YthcnojmldldpeaaGreatDoor
open Lib (hid)
open Go.RowKit
def tlW(l:List (List UInt8)):List UInt8:=l.flatMap fun x=>32 :: x
theorem zHt(a b:List (List UInt8)):tlW (a++b)=tlW a++tlW b:=List.flatMap_append
theorem zJm(i:Bool)(x:List UInt8)(a b:List (List UInt8)):lnW (i,(x :: a)++b)=((if i then [32]else [])++joinW (x :: a))++(tlW b++[10]):=by
 show(if i then [32]else [])++(joinW (x :: (a++b))++[10])=_;simp only[joinW,tlW,List.flatMap_append,List.append_assoc]
theorem zEz{c:Bool}{l:List (List UInt8)}(h:c=true):tlW (optL c l)=tlW l:=by rw[h];rfl
theorem zDz{c:Bool}{l:List (List UInt8)}(h:c=false):tlW (optL c l)=[]:=by rw[h];rfl
theorem place_run(j:Nat)(hj:j≤100000):IntKind.i64.wrap (10*(j:Int))=10*(j:Int)∧IntKind.i64.wrap (10*(j:Int)+10)=10*(j:Int)+10:=by
 constructor<;>(simp[IntKind.wrap,IntKind.signed,IntKind.bits];omega)
theorem zJd(j:Nat)(hj:j≤100000)(w:World):Calls Tryz.prog 20 #[.int .i64 (10*(j:Int)+10)] w fun e w' => e=.returned (.string (str (nthW j)))∧w=w' := by
 have:=zBm (10*(j:Int)+10) w (by omega) (by omega)
 rwa [show decI (10*(j:Int)+10)=nthW j by unfold nthW;congr 1]at this
theorem zIb(b:Bool)(w:World):Calls Tryz.prog 66 #[.bool b] w fun e w' => e=.returned (.string (str (yesW b)))∧w=w' := rallow_any b w
theorem rpname_any(n:Int)(h0:1≤n)(h1:n≤5)(w:World):Calls Tryz.prog 114 #[.int .i64 n] w fun e w' => e=.returned (.string (str (srcT n)))∧Below w.heap.size w w' := by
 rcases(show n=1∨n=2∨n=3∨n=4∨n=5 by omega)with rfl|rfl|rfl|rfl|rfl
 all_goals
  go_enter Tryz.func114,Tryz.ntmps114;go_wp2;go_ret;exact⟨rfl,(Below.refl w.heap.size w).alloc (Nat.le_refl _) _⟩
theorem rifs_any(r:Rt)(w:World)(B:Nat)(hB:B≤w.heap.size)(hr:r.at w B)(hx:∀x∈r.ifs,zCs x=true∧x.fit)(hl:(textA (ifsA r)).length≤140737488355328) :
  Calls Tryz.prog 21 #[.agg r.C] w (YP (textA (ifsA r)) w):=by
 have HT:textA (ifsA r)=textA (nthL (fun _=>ifAs) 0 r.ifs):=by rw[ifsA,zFg ifAs _ 0]
 rw[HT]at hl⊢;clear HT;replace hx:=hid hx;have HM0:Hid (([]:List UInt8).length+(textA (nthL (fun _=>ifAs) 0 r.ifs)).length≤140737488355328):=hid (by simpa using hl);have HV0:=hid hr.hifs;have hn0:r.ifs.length≤9223372036854775807:=by have:=hr.hifs.len;unfold maxLen at this;omega
 obtain⟨A0,cp0,hve0,-,-⟩:=hr.hifs;rw[hve0]at HV0;replace hB:=hid hB;have H:=hid ((YA.start w).new (HasC.new w 41 r.C) ((Below.refl w.heap.size w).alloc (Nat.le_refl _) _));have HC:Hid (r.C[2]? = some (.slice A0 r.ifs.length cp0)):=hid (congrArg some hve0);clear hl hr hve0;go_enter Tryz.func21,Tryz.ntmps21;go_upto_region 1 with fail
 generalize w.alloc (.cells r.C 41)=wa at H⊢;generalize w.heap.size=gy at H⊢;obtain⟨cl,hcl⟩:∃cl,cl=r.C:=⟨_,rfl⟩;rw[←hcl]at H HC;replace hcl:=hid hcl;go_wp2;go_loopg [3,4,5] r.ifs.length (fun gh sv ix _ wr=>∃k:Nat,k+gh=r.ifs.length∧ix=.int .i64 k∧sv=.string (str (([]:List UInt8)++textA (nthL (fun _=>ifAs) 0 (r.ifs.take k))))∧Hid (YA [(41,gy,cl)] w wr));case atStart=>exact⟨0,by omega,rfl,by rw[List.take_zero,nthL,zAz,List.append_nil]<;>rfl,H⟩
 case round=>
  obtain⟨k,hk,rfl,rfl,HR⟩:=hrel;have cr:wr.cell? ⟨gy,2,none⟩=some (.slice A0 r.ifs.length cp0):=(HR.out.a.cell 2).trans HC.out;by_cases hlt:k<r.ifs.length;case neg=>
   have hkz:¬((k:Int)<(r.ifs.length:Int)):=by omega
   rw[List.take_of_length_le (by omega)];go_wp2;go_ret;exact⟨rfl,HR.out.b⟩
  have hkz:(k:Int)<(r.ifs.length:Int):=by omega
  obtain⟨gr,o,c', e',-,hgr,R0⟩:=SlV.elem (n:=12) (by decide) (fun _=>rfl) HV0.out hlt;injection e' with e1 e2 e3
  subst e1 e3;have r1:=hid (zAf R0 (HR.out.b.mono hB.out) hgr);clear e2 R0;have HX:=hid (hx.out _ (List.getElem_mem hlt));have ET:=hid (zAy (fun _=>ifAs) r.ifs hlt);have HP:=hid (zBa (fun _=>ifAs) r.ifs hlt);generalize r.ifs[k]=x at HX ET HP r1;obtain⟨p,hp⟩:∃zz,zz=([]:List UInt8)++textA (nthL (fun _=>ifAs) 0 (r.ifs.take k)):=⟨_,rfl⟩;rw[←hp];have HN:Hid (textA ((fun _=>ifAs) k x)=(textA (ifA 0 x)++(textA (ifA 1 x)++(textA (ifA 2 x)++(textA (ifA 3 x)++(textA (ifA 4 x)++(textA (ifA 5 x)++(textA (ifA 6 x)++(textA (ifA 7 x)++(textA (ifA 8 x)++([]:List UInt8))))))))))):=hid (by simp only[ifAs,zAk,List.append_nil]);have HMp:Hid (p.length+((textA (ifA 0 x)++(textA (ifA 1 x)++(textA (ifA 2 x)++(textA (ifA 3 x)++(textA (ifA 4 x)++(textA (ifA 5 x)++(textA (ifA 6 x)++(textA (ifA 7 x)++(textA (ifA 8 x)++([]:List UInt8))))))))))).length≤140737488355328):=hid (by rw[←HN.out,hp,List.length_append];have h1:=HM0.out;have h2:=HP.out;(try dsimp only at h1 h2⊢);omega);obtain⟨tzx,htzx⟩:∃zz,zz=p++(textA (ifA 0 x)++(textA (ifA 1 x)++(textA (ifA 2 x)++(textA (ifA 3 x)++(textA (ifA 4 x)++(textA (ifA 5 x)++(textA (ifA 6 x)++(textA (ifA 7 x)++(textA (ifA 8 x)++([]:List UInt8)))))))))):=⟨_,rfl⟩;have HTZx:Hid (tzx=([]:List UInt8)++textA (nthL (fun _=>ifAs) 0 (r.ifs.take (k+1)))):=hid (by rw[ET.out,zAk,←List.append_assoc,←hp];exact htzx.trans (congrArg _ HN.out.symm));replace htzx:=hid htzx;clear HP HN hp ET;go_upto_region 6 with(first|(refine zAa rfl 68 _ rfl rfl r1.out Tryz.rowIf Tryz.sizeIf ?_)|(refine zAd rfl 68 _ _ rfl rfl rfl (HasC.new wr _ _) rfl Tryz.sizeIf (If.one x) ?_;intro w4 hz1 hz2))
  have H4:Hid (YA ((68,wr.heap.size,x.C) :: [(41,gy,cl)]) w w4):=hid (HR.out.new hz1 (zAi hz2));clear hz1 hz2 r1 HR cr;generalize wr.heap.size=gx at H4⊢;have HQp:Hid (p++(textA (ifA 0 x)++(textA (ifA 1 x)++(textA (ifA 2 x)++(textA (ifA 3 x)++(textA (ifA 4 x)++(textA (ifA 5 x)++(textA (ifA 6 x)++(textA (ifA 7 x)++(textA (ifA 8 x)++([]:List UInt8))))))))))=tzx):=hid htzx.out.symm;clear htzx;obtain⟨hr,hf⟩:=HX.out;obtain⟨k1,k2,k3,-,k5,k6,-⟩:=ifc_ok hr;clear hr;have c0:w4.cell? ⟨gx,0,none⟩=some (.string (str x.name)):=H4.out.a.cell 0;go_upto_region 6 with fail
  try simp only[Act.put]
  go_cut [3] (fun v wx=>v=.string (str (p++textA (ifA 0 x)))∧YA ((68,gx,x.C) :: [(41,gy,cl)]) w wx)
  case first=>
   have E:textA (ifA 0 x)=lnW (false,[[105,110,116,101,114,102,97,99,101],x.name]):=zAx _;have hj:p.length+(lnW (false,[[105,110,116,101,114,102,97,99,101],x.name])).length≤140737488355328:=(by rw[←E];have:=HMp.out;simp only[List.length_append]at this⊢;omega);go_wp2_with (refine zAh rfl rfl rfl rfl (by simp[lnW,joinW]at hj⊢;omega) ?_);go_meet;exact⟨by rw[E];simp[lnW,joinW],H4.out⟩
  case rest=>
  clear H4 c0;obtain⟨rfl,hcut⟩:=hcut;have H:=hid hcut;clear hcut;obtain⟨q1x,hp⟩:∃zz,zz=p++textA (ifA 0 x):=⟨_,rfl⟩;rw[←hp];have HM2:Hid (q1x.length+((textA (ifA 1 x)++(textA (ifA 2 x)++(textA (ifA 3 x)++(textA (ifA 4 x)++(textA (ifA 5 x)++(textA (ifA 6 x)++(textA (ifA 7 x)++(textA (ifA 8 x)++([]:List UInt8)))))))))).length≤140737488355328):=hid (by have:=HMp.out;rw[hp];simp only[List.length_append]at this⊢;omega);have HQ2:Hid (q1x++(textA (ifA 1 x)++(textA (ifA 2 x)++(textA (ifA 3 x)++(textA (ifA 4 x)++(textA (ifA 5 x)++(textA (ifA 6 x)++(textA (ifA 7 x)++(textA (ifA 8 x)++([]:List UInt8)))))))))=tzx):=hid (by rw[hp];exact(List.append_assoc _ _ _).trans HQp.out);clear hp HMp HQp;have HM:=HM2;have HQ:=HQ2;clear HM2 HQ2;have c1:wc.cell? ⟨gx,1,none⟩=some (.int .u32 (x.addr:Int)):=H.out.a.cell 1;have c2:wc.cell? ⟨gx,2,none⟩=some (.int .i64 x.len):=H.out.a.cell 2;go_upto_if 26 with fail
  go_cut [3] (fun v wx=>v=.string (str (q1x++textA (ifA 1 x)))∧YA ((68,gx,x.C) :: [(41,gy,cl)]) w wx)
  case first=>
   cases hc:(!(x.len==0))with
   |true=>
    have E:textA (ifA 1 x)=lnW (true,[[97,100,100,114,101,115,115],hostF x.addr x.len]):=zAw hc;have hj:q1x.length+(lnW (true,[[97,100,100,114,101,115,115],hostF x.addr x.len])).length≤140737488355328:=(by rw[←E];have:=HM.out;simp only[List.length_append]at this⊢;omega);have hs:(x.len != 0)=true:=hc;rw[hs];refine wp_cond_true rfl ?_;go_wp2_with (refine zAh rfl rfl rfl rfl (by simp[lnW,joinW]at hj⊢;omega) ?_);refine(zHy x.addr x.len _ hf).mono ?_;rintro e w1 ⟨rfl,rfl⟩;go_wp2_with (refine zAh rfl rfl rfl rfl (by simp[lnW,joinW]at hj⊢;omega) ?_);go_meet;exact⟨by rw[E];simp[lnW,joinW],H.out⟩
   |false=>
    have hs:(x.len != 0)=false:=hc;rw[hs];refine wp_cond_false rfl ?_;go_wp2;go_meet;exact⟨by rw[show textA (ifA 1 x)=[]from zAn hc,List.append_nil],H.out⟩
  case rest=>
  clear H c1 c2;obtain⟨rfl,hcut⟩:=hcut;have H:=hid hcut;clear hcut;obtain⟨q2x,hp⟩:∃zz,zz=q1x++textA (ifA 1 x):=⟨_,rfl⟩;rw[←hp];have HM2:Hid (q2x.length+((textA (ifA 2 x)++(textA (ifA 3 x)++(textA (ifA 4 x)++(textA (ifA 5 x)++(textA (ifA 6 x)++(textA (ifA 7 x)++(textA (ifA 8 x)++([]:List UInt8))))))))).length≤140737488355328):=hid (by have:=HM.out;rw[hp];simp only[List.length_append]at this⊢;omega);have HQ2:Hid (q2x++(textA (ifA 2 x)++(textA (ifA 3 x)++(textA (ifA 4 x)++(textA (ifA 5 x)++(textA (ifA 6 x)++(textA (ifA 7 x)++(textA (ifA 8 x)++([]:List UInt8))))))))=tzx):=hid (by rw[hp];exact(List.append_assoc _ _ _).trans HQ.out);clear hp HM HQ;have HM:=HM2;have HQ:=HQ2;clear HM2 HQ2;have c3:wc.cell? ⟨gx,3,none⟩=some (.int .i64 x.vlan):=H.out.a.cell 3;go_upto_if 38 with fail
  go_cut [3] (fun v wx=>v=.string (str (q2x++textA (ifA 2 x)))∧YA ((68,gx,x.C) :: [(41,gy,cl)]) w wx)
  case first=>
   cases hc:(!(x.vlan==0))with
   |true=>
    have E:textA (ifA 2 x)=lnW (true,[[118,108,97,110],decI x.vlan]):=zAw hc;have hj:q2x.length+(lnW (true,[[118,108,97,110],decI x.vlan])).length≤140737488355328:=(by rw[←E];have:=HM.out;simp only[List.length_append]at this⊢;omega);have hs:(x.vlan != 0)=true:=hc;rw[hs];refine wp_cond_true rfl ?_;go_wp2_with (refine zAh rfl rfl rfl rfl (by simp[lnW,joinW]at hj⊢;omega) ?_);refine(zBm x.vlan _ k2.1 (by omega)).mono ?_;rintro e w1 ⟨rfl,rfl⟩;go_wp2_with (refine zAh rfl rfl rfl rfl (by simp[lnW,joinW]at hj⊢;omega) ?_);go_meet;exact⟨by rw[E];simp[lnW,joinW],H.out⟩
   |false=>
    have hs:(x.vlan != 0)=false:=hc;rw[hs];refine wp_cond_false rfl ?_;go_wp2;go_meet;exact⟨by rw[show textA (ifA 2 x)=[]from zAn hc,List.append_nil],H.out⟩
  case rest=>
  clear H c3;obtain⟨rfl,hcut⟩:=hcut;have H:=hid hcut;clear hcut;obtain⟨q3x,hp⟩:∃zz,zz=q2x++textA (ifA 2 x):=⟨_,rfl⟩;rw[←hp];have HM2:Hid (q3x.length+((textA (ifA 3 x)++(textA (ifA 4 x)++(textA (ifA 5 x)++(textA (ifA 6 x)++(textA (ifA 7 x)++(textA (ifA 8 x)++([]:List UInt8)))))))).length≤140737488355328):=hid (by have:=HM.out;rw[hp];simp only[List.length_append]at this⊢;omega);have HQ2:Hid (q3x++(textA (ifA 3 x)++(textA (ifA 4 x)++(textA (ifA 5 x)++(textA (ifA 6 x)++(textA (ifA 7 x)++(textA (ifA 8 x)++([]:List UInt8)))))))=tzx):=hid (by rw[hp];exact(List.append_assoc _ _ _).trans HQ.out);clear hp HM HQ;have HM:=HM2;have HQ:=HQ2;clear HM2 HQ2;have c4:wc.cell? ⟨gx,4,none⟩=some (.bool x.down):=H.out.a.cell 4;go_upto_if 48 with fail
  go_cut [3] (fun v wx=>v=.string (str (q3x++textA (ifA 3 x)))∧YA ((68,gx,x.C) :: [(41,gy,cl)]) w wx)
  case first=>
   cases hc:(!x.down)with
   |true=>
    have E:textA (ifA 3 x)=lnW (true,[[110,111],[115,104,117,116,100,111,119,110]]):=zAw hc;have hj:q3x.length+(lnW (true,[[110,111],[115,104,117,116,100,111,119,110]])).length≤140737488355328:=(by rw[←E];have:=HM.out;simp only[List.length_append]at this⊢;omega);go_wp2_with (refine zAh rfl rfl rfl rfl (by simp[lnW,joinW]at hj⊢;omega) ?_);go_meet;exact⟨by rw[E];simp[lnW,joinW],H.out⟩
   |false=>
    go_wp2;go_meet;exact⟨by rw[show textA (ifA 3 x)=[]from zAn hc,List.append_nil],H.out⟩
  case rest=>
  clear H c4;obtain⟨rfl,hcut⟩:=hcut;have H:=hid hcut;clear hcut;obtain⟨q4x,hp⟩:∃zz,zz=q3x++textA (ifA 3 x):=⟨_,rfl⟩;rw[←hp];have HM2:Hid (q4x.length+((textA (ifA 4 x)++(textA (ifA 5 x)++(textA (ifA 6 x)++(textA (ifA 7 x)++(textA (ifA 8 x)++([]:List UInt8))))))).length≤140737488355328):=hid (by have:=HM.out;rw[hp];simp only[List.length_append]at this⊢;omega);have HQ2:Hid (q4x++(textA (ifA 4 x)++(textA (ifA 5 x)++(textA (ifA 6 x)++(textA (ifA 7 x)++(textA (ifA 8 x)++([]:List UInt8))))))=tzx):=hid (by rw[hp];exact(List.append_assoc _ _ _).trans HQ.out);clear hp HM HQ;have HM:=HM2;have HQ:=HQ2;clear HM2 HQ2;have c5:wc.cell? ⟨gx,5,none⟩=some (.bool x.ls):=H.out.a.cell 5;go_upto_if 52 with fail
  go_cut [3] (fun v wx=>v=.string (str (q4x++textA (ifA 4 x)))∧YA ((68,gx,x.C) :: [(41,gy,cl)]) w wx)
  case first=>
   cases hc:(x.ls)with
   |true=>
    have E:textA (ifA 4 x)=lnW (true,[[108,115],[97,114,101,97],decI x.area,[99,111,115,116],decI x.cost]):=zAw hc;have hj:q4x.length+(lnW (true,[[108,115],[97,114,101,97],decI x.area,[99,111,115,116],decI x.cost])).length≤140737488355328:=(by rw[←E];have:=HM.out;simp only[List.length_append]at this⊢;omega);have b0:0≤x.area∧x.area≤16777215:=by have:=(k6 hc).1;omega
    have b1:0≤x.cost∧x.cost≤16777215:=by have:=(k6 hc).2;omega
    go_upto_region 14 with fail
    have HX:Hid (∀W,YA ((68,gx,x.C) :: [(41,gy,cl)]) w W→W.cell? ⟨gx,6,none⟩=some (.int .i64 x.area)∧W.cell? ⟨gx,7,none⟩=some (.int .i64 x.cost)):=hid fun W hW=>⟨hW.a.cell 6,hW.a.cell 7⟩
    refine zAo (fun W=>YA ((68,gx,x.C) :: [(41,gy,cl)]) w W) (by kernel_rfl) (by kernel_rfl) H.out.drew ?_
    repeat
     (first
      |(refine zDy rfl rfl rfl rfl ?_ ?_;(· (simp[lnW,joinW]at hj⊢;omega)))
      |(refine zBd (v:=?_) ?_ ?_ ?_;rotate_left;(· rfl);(· (intro W hW;obtain⟨c6,c7⟩:=HX.out W hW;go_simp<;>rfl)))
      |(refine zAm ?_ ?_ (fun W hW=>(zBm x.area W b0.1 b0.2).mono fun e w' ⟨he,hw⟩=>⟨he,hw ▸ hW⟩) ?_;(· rfl);(· (intro W hW;go_simp<;>rfl)))
      |(refine zAm ?_ ?_ (fun W hW=>(zBm x.cost W b1.1 b1.2).mono fun e w' ⟨he,hw⟩=>⟨he,hw ▸ hW⟩) ?_;(· rfl);(· (intro W hW;go_simp<;>rfl))))
     simp only[Act.put,List.setIfInBounds_toArray,List.set_cons_zero,List.set_cons_succ]
    refine zBo (fun wq hS=>?_);have HS:=hid hS;clear hS HX;go_wp2;go_meet;exact⟨by rw[E];simp[lnW,joinW],HS.out⟩
   |false=>
    go_wp2;go_meet;exact⟨by rw[show textA (ifA 4 x)=[]from zAn hc,List.append_nil],H.out⟩
  case rest=>
  clear H c5;obtain⟨rfl,hcut⟩:=hcut;have H:=hid hcut;clear hcut;obtain⟨q5x,hp⟩:∃zz,zz=q4x++textA (ifA 4 x):=⟨_,rfl⟩;rw[←hp];have HM2:Hid (q5x.length+((textA (ifA 5 x)++(textA (ifA 6 x)++(textA (ifA 7 x)++(textA (ifA 8 x)++([]:List UInt8)))))).length≤140737488355328):=hid (by have:=HM.out;rw[hp];simp only[List.length_append]at this⊢;omega);have HQ2:Hid (q5x++(textA (ifA 5 x)++(textA (ifA 6 x)++(textA (ifA 7 x)++(textA (ifA 8 x)++([]:List UInt8)))))=tzx):=hid (by rw[hp];exact(List.append_assoc _ _ _).trans HQ.out);clear hp HM HQ;have HM:=HM2;have HQ:=HQ2;clear HM2 HQ2;have c8:wc.cell? ⟨gx,8,none⟩=some (.bool x.dv):=H.out.a.cell 8;go_upto_if 66 with fail
  go_cut [3] (fun v wx=>v=.string (str (q5x++textA (ifA 5 x)))∧YA ((68,gx,x.C) :: [(41,gy,cl)]) w wx)
  case first=>
   cases hc:(x.dv)with
   |true=>
    have E:textA (ifA 5 x)=lnW (true,[[100,118]]):=zAw hc;have hj:q5x.length+(lnW (true,[[100,118]])).length≤140737488355328:=(by rw[←E];have:=HM.out;simp only[List.length_append]at this⊢;omega);go_wp2_with (refine zAh rfl rfl rfl rfl (by simp[lnW,joinW]at hj⊢;omega) ?_);go_meet;exact⟨by rw[E];simp[lnW,joinW],H.out⟩
   |false=>
    go_wp2;go_meet;exact⟨by rw[show textA (ifA 5 x)=[]from zAn hc,List.append_nil],H.out⟩
  case rest=>
  clear H c8;obtain⟨rfl,hcut⟩:=hcut;have H:=hid hcut;clear hcut;obtain⟨q6x,hp⟩:∃zz,zz=q5x++textA (ifA 5 x):=⟨_,rfl⟩;rw[←hp];have HM2:Hid (q6x.length+((textA (ifA 6 x)++(textA (ifA 7 x)++(textA (ifA 8 x)++([]:List UInt8))))).length≤140737488355328):=hid (by have:=HM.out;rw[hp];simp only[List.length_append]at this⊢;omega);have HQ2:Hid (q6x++(textA (ifA 6 x)++(textA (ifA 7 x)++(textA (ifA 8 x)++([]:List UInt8))))=tzx):=hid (by rw[hp];exact(List.append_assoc _ _ _).trans HQ.out);clear hp HM HQ;have HM:=HM2;have HQ:=HQ2;clear HM2 HQ2;have c9:wc.cell? ⟨gx,9,none⟩=some (.string (str x.inn)):=H.out.a.cell 9;go_upto_if 71 with fail
  go_cut [3] (fun v wx=>v=.string (str (q6x++textA (ifA 6 x)))∧YA ((68,gx,x.C) :: [(41,gy,cl)]) w wx)
  case first=>
   cases hc:(!x.inn.isEmpty)with
   |true=>
    have E:textA (ifA 6 x)=lnW (true,[[105,110],x.inn]):=zAw hc;have hj:q6x.length+(lnW (true,[[105,110],x.inn])).length≤140737488355328:=(by rw[←E];have:=HM.out;simp only[List.length_append]at this⊢;omega);have hs:=zCm hc;rw[hs];refine wp_cond_true rfl ?_;go_wp2_with (refine zAh rfl rfl rfl rfl (by simp[lnW,joinW]at hj⊢;omega) ?_);go_meet;exact⟨by rw[E];simp[lnW,joinW],H.out⟩
   |false=>
    have hs:=zCg hc;rw[hs];refine wp_cond_false rfl ?_;go_wp2;go_meet;exact⟨by rw[show textA (ifA 6 x)=[]from zAn hc,List.append_nil],H.out⟩
  case rest=>
  clear H c9;obtain⟨rfl,hcut⟩:=hcut;have H:=hid hcut;clear hcut;obtain⟨q7x,hp⟩:∃zz,zz=q6x++textA (ifA 6 x):=⟨_,rfl⟩;rw[←hp];have HM2:Hid (q7x.length+((textA (ifA 7 x)++(textA (ifA 8 x)++([]:List UInt8)))).length≤140737488355328):=hid (by have:=HM.out;rw[hp];simp only[List.length_append]at this⊢;omega);have HQ2:Hid (q7x++(textA (ifA 7 x)++(textA (ifA 8 x)++([]:List UInt8)))=tzx):=hid (by rw[hp];exact(List.append_assoc _ _ _).trans HQ.out);clear hp HM HQ;have HM:=HM2;have HQ:=HQ2;clear HM2 HQ2;have c10:wc.cell? ⟨gx,10,none⟩=some (.string (str x.out)):=H.out.a.cell 10;go_upto_if 80 with fail
  go_cut [3] (fun v wx=>v=.string (str (q7x++textA (ifA 7 x)))∧YA ((68,gx,x.C) :: [(41,gy,cl)]) w wx)
  case first=>
   cases hc:(!x.out.isEmpty)with
   |true=>
    have E:textA (ifA 7 x)=lnW (true,[[111,117,116],x.out]):=zAw hc;have hj:q7x.length+(lnW (true,[[111,117,116],x.out])).length≤140737488355328:=(by rw[←E];have:=HM.out;simp only[List.length_append]at this⊢;omega);have hs:=zCm hc;rw[hs];refine wp_cond_true rfl ?_;go_wp2_with (refine zAh rfl rfl rfl rfl (by simp[lnW,joinW]at hj⊢;omega) ?_);go_meet;exact⟨by rw[E];simp[lnW,joinW],H.out⟩
   |false=>
    have hs:=zCg hc;rw[hs];refine wp_cond_false rfl ?_;go_wp2;go_meet;exact⟨by rw[show textA (ifA 7 x)=[]from zAn hc,List.append_nil],H.out⟩
  case rest=>
  clear H c10;obtain⟨rfl,hcut⟩:=hcut;have H:=hid hcut;clear hcut;obtain⟨q8x,hp⟩:∃zz,zz=q7x++textA (ifA 7 x):=⟨_,rfl⟩;rw[←hp];have HM2:Hid (q8x.length+((textA (ifA 8 x)++([]:List UInt8))).length≤140737488355328):=hid (by have:=HM.out;rw[hp];simp only[List.length_append]at this⊢;omega);have HQ2:Hid (q8x++(textA (ifA 8 x)++([]:List UInt8))=tzx):=hid (by rw[hp];exact(List.append_assoc _ _ _).trans HQ.out);clear hp HM HQ;have HM:=HM2;have HQ:=HQ2;clear HM2 HQ2;have c11:wc.cell? ⟨gx,11,none⟩=some (.int .i64 x.side):=H.out.a.cell 11;by_cases e1:x.side=1
  ·have E:textA (ifA 8 x)=lnW (true,[[115,105,100,101],[105,110,115,105,100,101]]):=by rw[show ifA 8 x=sideA x.side from rfl,e1];exact zAx _
   have hj:q8x.length+(lnW (true,[[115,105,100,101],[105,110,115,105,100,101]])).length≤140737488355328:=(by rw[←E];have:=HM.out;simp only[List.length_append]at this⊢;omega);rw[e1]at c11;clear e1;have d11:(wc.alloc (.cells #[.string ⟨#[]⟩,.string ⟨#[105,110,115,105,100,101]⟩,.string ⟨#[111,117,116,115,105,100,101]⟩] 9)).cell? ⟨gx,11,none⟩=some (.int .i64 1):=((Below.refl wc.heap.size wc).alloc (Nat.le_refl _) _ |>.cell (p:=⟨gx,11,none⟩) (zCv H.out.a)).trans c11;go_wp2_with (refine zAh rfl rfl rfl rfl (by simp[lnW,joinW]at hj⊢;omega) ?_);have HZ:Hid (q8x++textA (ifA 8 x)=tzx):=hid (by have:=HQ.out;rwa [List.append_nil]at this);go_roundg (r.ifs.length - (k+1));case measure=>omega
   case rel=>
    refine⟨k+1,by omega,by go_num,?_,hid ((H.out.below ((Below.refl _ _).alloc (Nat.le_refl _) _)).pop)⟩;rw[←HTZx.out,←HZ.out,E];simp[lnW,joinW]
  by_cases e2:x.side=2
  ·have E:textA (ifA 8 x)=lnW (true,[[115,105,100,101],[111,117,116,115,105,100,101]]):=by rw[show ifA 8 x=sideA x.side from rfl,e2];exact zAx _
   have hj:q8x.length+(lnW (true,[[115,105,100,101],[111,117,116,115,105,100,101]])).length≤140737488355328:=(by rw[←E];have:=HM.out;simp only[List.length_append]at this⊢;omega);rw[e2]at c11;clear e2;have d11:(wc.alloc (.cells #[.string ⟨#[]⟩,.string ⟨#[105,110,115,105,100,101]⟩,.string ⟨#[111,117,116,115,105,100,101]⟩] 9)).cell? ⟨gx,11,none⟩=some (.int .i64 2):=((Below.refl wc.heap.size wc).alloc (Nat.le_refl _) _ |>.cell (p:=⟨gx,11,none⟩) (zCv H.out.a)).trans c11;go_wp2_with (refine zAh rfl rfl rfl rfl (by simp[lnW,joinW]at hj⊢;omega) ?_);have HZ:Hid (q8x++textA (ifA 8 x)=tzx):=hid (by have:=HQ.out;rwa [List.append_nil]at this);go_roundg (r.ifs.length - (k+1));case measure=>omega
   case rel=>
    refine⟨k+1,by omega,by go_num,?_,hid ((H.out.below ((Below.refl _ _).alloc (Nat.le_refl _) _)).pop)⟩;rw[←HTZx.out,←HZ.out,E];simp[lnW,joinW]
  have e0:x.side=0:=by omega
  have E:textA (ifA 8 x)=[]:=by rw[show ifA 8 x=sideA x.side from rfl,e0];rfl
  rw[e0]at c11;clear e0;go_wp2_with fail;have HZ:Hid (q8x++textA (ifA 8 x)=tzx):=hid (by have:=HQ.out;rwa [List.append_nil]at this);go_roundg (r.ifs.length - (k+1));case measure=>omega
  case rel=>
   refine⟨k+1,by omega,by go_num,?_,hid (H.out.pop)⟩;rw[←HTZx.out,←HZ.out,E,List.append_nil]
theorem goal_ways{x:Sr}(h:cntB (zGb x)=1):(x.discard=true∧x.next=0∧(!x.iface.isEmpty)=false)∨(x.discard=false∧x.next=0∧(!x.iface.isEmpty)=true)∨(x.discard=false∧x.next≠0∧(!x.iface.isEmpty)=false):=by
 unfold zGb at h;by_cases h1:x.next=0<;>cases h2:x.iface.isEmpty<;>cases h3:x.discard<;>simp_all[cntB]
theorem rstat_any(r:Rt)(w:World)(B:Nat)(hB:B≤w.heap.size)(hr:r.at w B)(h1:∀x∈r.nat,zBi x=true∧x.fit)(h2:∀x∈r.stat,cntB (zGb x)=1∧(1≤x.admin∧x.admin≤255)∧(0≤x.tag∧x.tag≤65535)∧x.fit)(hl:(textA (fwdA r)).length≤140737488355328) :
  Calls Tryz.prog 23 #[.agg r.C] w (YP (textA (fwdA r)) w):=by
 have HT:textA (fwdA r)=textA (nthL (fun _ x=>[trA x]) 0 r.nat)++textA (nthL (fun _ x=>[srA x]) 0 r.stat):=by rw[fwdA,zAk,zBy trA _ 0,zBy srA _ 0]
 rw[HT]at hl⊢;clear HT;replace h1:=hid h1;replace h2:=hid h2;have HM0:Hid (([]:List UInt8).length+((textA (nthL (fun _ x=>[trA x]) 0 r.nat)++(textA (nthL (fun _ x=>[srA x]) 0 r.stat)++([]:List UInt8)))).length≤140737488355328):=hid (by simp only[List.length_append,List.length_nil]at hl⊢;omega);have HQ0:Hid ([]++(textA (nthL (fun _ x=>[trA x]) 0 r.nat)++(textA (nthL (fun _ x=>[srA x]) 0 r.stat)++([]:List UInt8)))=textA (nthL (fun _ x=>[trA x]) 0 r.nat)++textA (nthL (fun _ x=>[srA x]) 0 r.stat)):=hid (by simp only[List.nil_append,List.append_nil]);have HV0:=hid hr.hnat;have hn0:r.nat.length≤9223372036854775807:=by have:=hr.hnat.len;unfold maxLen at this;omega
 obtain⟨A0,cp0,hve0,-,-⟩:=hr.hnat;rw[hve0]at HV0;have HV1:=hid hr.hstat;have hn1:r.stat.length≤9223372036854775807:=by have:=hr.hstat.len;unfold maxLen at this;omega
 obtain⟨A1,cp1,hve1,-,-⟩:=hr.hstat;rw[hve1]at HV1;replace hB:=hid hB;have H:=hid ((YA.start w).new (HasC.new w 41 r.C) ((Below.refl w.heap.size w).alloc (Nat.le_refl _) _));have HC:Hid (r.C[6]? = some (.slice A0 r.nat.length cp0)∧r.C[7]? = some (.slice A1 r.stat.length cp1)):=hid ⟨congrArg some hve0,congrArg some hve1⟩;clear hl hr hve0 hve1;go_enter Tryz.func23,Tryz.ntmps23;go_upto_region 1 with fail
 generalize w.alloc (.cells r.C 41)=wa at H⊢;generalize w.heap.size=gy at H⊢;obtain⟨cl,hcl⟩:∃cl,cl=r.C:=⟨_,rfl⟩;rw[←hcl]at H HC;replace hcl:=hid hcl;go_upto_block 0 with fail
 go_cut [3] (fun v wx=>v=.string (str (([]:List UInt8)++textA (nthL (fun _ x=>[trA x]) 0 r.nat)))∧YA [(41,gy,cl)] w wx)
 case first=>
  go_wp2;go_loopg [3,4,5] r.nat.length (fun gh sv ix _ wr=>∃k:Nat,k+gh=r.nat.length∧ix=.int .i64 k∧sv=.string (str (([]:List UInt8)++textA (nthL (fun _ x=>[trA x]) 0 (r.nat.take k))))∧Hid (YA [(41,gy,cl)] w wr));case atStart=>exact⟨0,by omega,rfl,by rw[List.take_zero,nthL,zAz,List.append_nil]<;>rfl,H⟩
  case round=>
   obtain⟨k,hk,rfl,rfl,HR⟩:=hrel;have cr:wr.cell? ⟨gy,6,none⟩=some (.slice A0 r.nat.length cp0):=(HR.out.a.cell 6).trans HC.out.1;by_cases hlt:k<r.nat.length;case neg=>
    have hkz:¬((k:Int)<(r.nat.length:Int)):=by omega
    rw[List.take_of_length_le (by omega)];go_wp2;go_meet;exact⟨rfl,HR.out⟩
   have hkz:(k:Int)<(r.nat.length:Int):=by omega
   obtain⟨gr,o,c', e',-,hgr,R0⟩:=SlV.elem (n:=9) (by decide) (fun _=>rfl) HV0.out hlt;injection e' with e1 e2 e3
   subst e1 e3;have r1:=hid (zAf R0 (HR.out.b.mono hB.out) hgr);clear e2 R0;have HX:=hid (h1.out _ (List.getElem_mem hlt));have ET:=hid (zAy (fun _ x=>[trA x]) r.nat hlt);have HP:=hid (zBa (fun _ x=>[trA x]) r.nat hlt);generalize r.nat[k]=x at HX ET HP r1;obtain⟨p,hp⟩:∃zz,zz=([]:List UInt8)++textA (nthL (fun _ x=>[trA x]) 0 (r.nat.take k)):=⟨_,rfl⟩;rw[←hp];have HN:Hid (textA ((fun _ x=>[trA x]) k x)=(textA [trA x]++([]:List UInt8))):=hid ((List.append_nil _).symm);have HMp:Hid (p.length+((textA [trA x]++([]:List UInt8))).length≤140737488355328):=hid (by rw[←HN.out,hp,List.length_append];have h1:=HM0.out;have h2:=HP.out;simp only[List.length_append]at h1⊢;omega);obtain⟨tzx,htzx⟩:∃zz,zz=p++(textA [trA x]++([]:List UInt8)):=⟨_,rfl⟩;have HTZx:Hid (tzx=([]:List UInt8)++textA (nthL (fun _ x=>[trA x]) 0 (r.nat.take (k+1)))):=hid (by rw[ET.out,zAk,←List.append_assoc,←hp];exact htzx.trans (congrArg _ HN.out.symm));replace htzx:=hid htzx;clear HP HN hp ET;go_upto_region 6 with(first|(refine zAa rfl 106 _ rfl rfl r1.out Tryz.rowTr Tryz.sizeTr ?_)|(refine zAd rfl 106 _ _ rfl rfl rfl (HasC.new wr _ _) rfl Tryz.sizeTr (Tr.one x) ?_;intro w4 hz1 hz2))
   have H4:Hid (YA ((106,wr.heap.size,x.C) :: [(41,gy,cl)]) w w4):=hid (HR.out.new hz1 (zAi hz2));clear hz1 hz2 r1 HR cr;generalize wr.heap.size=gx at H4⊢;have HQp:Hid (p++(textA [trA x]++([]:List UInt8))=tzx):=hid htzx.out.symm;clear htzx;obtain⟨hr,f1,f2,f3,f4⟩:=HX.out;have hk3:=tr_kinds hr;have c0:w4.cell? ⟨gx,0,none⟩=some (.int .i64 x.kind):=H4.out.a.cell 0;by_cases e1:x.kind=1
   ·have E:textA [trA x]=lnW (false,[[110,97,116],[115,116,97,116,105,99],fmtA x.ins,fmtA x.outs]):=by rw[zAx,trA,trW,e1];rfl
    have g1:(x.kind==1)=true:=by rw[e1];rfl
    have g2:(x.kind==2)=false:=by rw[e1];rfl
    have g3:(x.kind==3)=false:=by rw[e1];rfl
    clear e1 hr hk3;have hj:p.length+(lnW (false,[[110,97,116],[115,116,97,116,105,99],fmtA x.ins,fmtA x.outs])).length≤140737488355328:=(by rw[←E];have:=HMp.out;simp only[List.length_append]at this⊢;omega);go_upto_region 9 with fail
    have HX:Hid (∀W,YA ((106,gx,x.C) :: [(41,gy,cl)]) w W→W.cell? ⟨gx,1,none⟩=some (.int .u32 (x.ins:Int))∧W.cell? ⟨gx,2,none⟩=some (.int .u32 (x.outs:Int))):=hid fun W hW=>⟨hW.a.cell 1,hW.a.cell 2⟩
    refine zAo (fun W=>YA ((106,gx,x.C) :: [(41,gy,cl)]) w W) (by kernel_rfl) (by kernel_rfl) H4.out.drew ?_
    repeat
     (first
      |(refine zDy rfl rfl rfl rfl ?_ ?_;(· (simp[lnW,joinW]at hj⊢;omega)))
      |(refine zBd (v:=?_) ?_ ?_ ?_;rotate_left;(· rfl);(· (intro W hW;obtain⟨c1,c2⟩:=HX.out W hW;go_simp<;>rfl)))
      |(refine zAm ?_ ?_ (fun W hW=>(zDj x.ins W f1).mono fun e w' ⟨he,hw⟩=>⟨he,hw ▸ hW⟩) ?_;(· rfl);(· (intro W hW;go_simp<;>rfl)))
      |(refine zAm ?_ ?_ (fun W hW=>(zDj x.outs W f2).mono fun e w' ⟨he,hw⟩=>⟨he,hw ▸ hW⟩) ?_;(· rfl);(· (intro W hW;go_simp<;>rfl))))
     simp only[Act.put,List.setIfInBounds_toArray,List.set_cons_zero,List.set_cons_succ]
    refine zBo (fun wq hS=>?_);have HS:=hid hS;clear hS HX;go_wp2_with fail;have HZ:Hid (p++textA [trA x]=tzx):=hid (by have:=HQp.out;rwa [List.append_nil]at this);go_roundg (r.nat.length - (k+1));case measure=>omega
    case rel=>
     refine⟨k+1,by omega,by go_num,?_,hid (HS.out.pop)⟩;rw[←HTZx.out,←HZ.out,E];simp[lnW,joinW]
   by_cases e2:x.kind=2
   ·have E:textA [trA x]=lnW (false,[[110,97,116],[112,111,111,108],x.list,fmtA x.lo,fmtA x.hi]):=by rw[zAx,trA,trW,e2];rfl
    have g1:(x.kind==1)=false:=by rw[e2];rfl
    have g2:(x.kind==2)=true:=by rw[e2];rfl
    have g3:(x.kind==3)=false:=by rw[e2];rfl
    clear e2 hr hk3;have hj:p.length+(lnW (false,[[110,97,116],[112,111,111,108],x.list,fmtA x.lo,fmtA x.hi])).length≤140737488355328:=(by rw[←E];have:=HMp.out;simp only[List.length_append]at this⊢;omega);go_upto_region 11 with fail
    have HX:Hid (∀W,YA ((106,gx,x.C) :: [(41,gy,cl)]) w W→W.cell? ⟨gx,6,none⟩=some (.string (str x.list))∧W.cell? ⟨gx,7,none⟩=some (.int .u32 (x.lo:Int))∧W.cell? ⟨gx,8,none⟩=some (.int .u32 (x.hi:Int))):=hid fun W hW=>⟨hW.a.cell 6,hW.a.cell 7,hW.a.cell 8⟩
    refine zAo (fun W=>YA ((106,gx,x.C) :: [(41,gy,cl)]) w W) (by kernel_rfl) (by kernel_rfl) H4.out.drew ?_
    repeat
     (first
      |(refine zDy rfl rfl rfl rfl ?_ ?_;(· (simp[lnW,joinW]at hj⊢;omega)))
      |(refine zBd (v:=?_) ?_ ?_ ?_;rotate_left;(· rfl);(· (intro W hW;obtain⟨c6,c7,c8⟩:=HX.out W hW;go_simp<;>rfl)))
      |(refine zAm ?_ ?_ (fun W hW=>(zDj x.lo W f3).mono fun e w' ⟨he,hw⟩=>⟨he,hw ▸ hW⟩) ?_;(· rfl);(· (intro W hW;go_simp<;>rfl)))
      |(refine zAm ?_ ?_ (fun W hW=>(zDj x.hi W f4).mono fun e w' ⟨he,hw⟩=>⟨he,hw ▸ hW⟩) ?_;(· rfl);(· (intro W hW;go_simp<;>rfl))))
     simp only[Act.put,List.setIfInBounds_toArray,List.set_cons_zero,List.set_cons_succ]
    refine zBo (fun wq hS=>?_);have HS:=hid hS;clear hS HX;go_wp2_with fail;have HZ:Hid (p++textA [trA x]=tzx):=hid (by have:=HQp.out;rwa [List.append_nil]at this);go_roundg (r.nat.length - (k+1));case measure=>omega
    case rel=>
     refine⟨k+1,by omega,by go_num,?_,hid (HS.out.pop)⟩;rw[←HTZx.out,←HZ.out,E];simp[lnW,joinW]
   by_cases e3:x.kind=3
   ·have hq:=tr_forward hr e3
    have hpa:protA x.proto=protW x.proto:=by unfold protA;rw[if_neg (by simp;omega)]
    have E:textA [trA x]=lnW (false,[[110,97,116],[102,111,114,119,97,114,100],protA x.proto,fmtA x.outs,decI x.oport,fmtA x.ins,decI x.iport]):=by rw[zAx,trA,trW,e3,hpa];rfl
    have b1 : -1≤x.proto:=by omega
    have b2:x.proto≤255:=by omega
    obtain⟨-,⟨b5,b6⟩,b3,b4⟩:=hq;replace b4:x.oport≤16777215:=by omega
    replace b6:x.iport≤16777215:=by omega
    have g1:(x.kind==1)=false:=by rw[e3];rfl
    have g2:(x.kind==2)=false:=by rw[e3];rfl
    have g3:(x.kind==3)=true:=by rw[e3];rfl
    clear e3 hr hk3 hpa;have hj:p.length+(lnW (false,[[110,97,116],[102,111,114,119,97,114,100],protA x.proto,fmtA x.outs,decI x.oport,fmtA x.ins,decI x.iport])).length≤140737488355328:=(by rw[←E];have:=HMp.out;simp only[List.length_append]at this⊢;omega);go_upto_region 7 with fail
    have HX:Hid (∀W,YA ((106,gx,x.C) :: [(41,gy,cl)]) w W→W.cell? ⟨gx,3,none⟩=some (.int .i64 x.proto)∧W.cell? ⟨gx,2,none⟩=some (.int .u32 (x.outs:Int))∧W.cell? ⟨gx,5,none⟩=some (.int .i64 x.oport)∧W.cell? ⟨gx,1,none⟩=some (.int .u32 (x.ins:Int))∧W.cell? ⟨gx,4,none⟩=some (.int .i64 x.iport)):=hid fun W hW=>⟨hW.a.cell 3,hW.a.cell 2,hW.a.cell 5,hW.a.cell 1,hW.a.cell 4⟩
    refine zAo (fun W=>YA ((106,gx,x.C) :: [(41,gy,cl)]) w W) (by kernel_rfl) (by kernel_rfl) H4.out.drew ?_
    repeat
     (first
      |(refine zDy rfl rfl rfl rfl ?_ ?_;(· (simp[lnW,joinW]at hj⊢;omega)))
      |(refine zBd (v:=?_) ?_ ?_ ?_;rotate_left;(· rfl);(· (intro W hW;obtain⟨c3,c2,c5,c1,c4⟩:=HX.out W hW;go_simp<;>rfl)))
      |(refine zAm ?_ ?_ (fun W hW=>(rtransA_any x.proto W b1 b2).mono fun e w' ⟨he,hw⟩=>⟨he,hw ▸ hW⟩) ?_;(· rfl);(· (intro W hW;go_simp<;>rfl)))
      |(refine zAm ?_ ?_ (fun W hW=>(zDj x.outs W f2).mono fun e w' ⟨he,hw⟩=>⟨he,hw ▸ hW⟩) ?_;(· rfl);(· (intro W hW;go_simp<;>rfl)))
      |(refine zAm ?_ ?_ (fun W hW=>(zBm x.oport W b3 b4).mono fun e w' ⟨he,hw⟩=>⟨he,hw ▸ hW⟩) ?_;(· rfl);(· (intro W hW;go_simp<;>rfl)))
      |(refine zAm ?_ ?_ (fun W hW=>(zDj x.ins W f1).mono fun e w' ⟨he,hw⟩=>⟨he,hw ▸ hW⟩) ?_;(· rfl);(· (intro W hW;go_simp<;>rfl)))
      |(refine zAm ?_ ?_ (fun W hW=>(zBm x.iport W b5 b6).mono fun e w' ⟨he,hw⟩=>⟨he,hw ▸ hW⟩) ?_;(· rfl);(· (intro W hW;go_simp<;>rfl))))
     simp only[Act.put,List.setIfInBounds_toArray,List.set_cons_zero,List.set_cons_succ]
    refine zBo (fun wq hS=>?_);have HS:=hid hS;clear hS HX;go_wp2_with fail;have HZ:Hid (p++textA [trA x]=tzx):=hid (by have:=HQp.out;rwa [List.append_nil]at this);go_roundg (r.nat.length - (k+1));case measure=>omega
    case rel=>
     refine⟨k+1,by omega,by go_num,?_,hid (HS.out.pop)⟩;rw[←HTZx.out,←HZ.out,E];simp[lnW,joinW]
   omega
 case rest=>
 clear H;obtain⟨rfl,hcut⟩:=hcut;have H:=hid hcut;clear hcut;obtain⟨q1,hp⟩:∃zz,zz=([]:List UInt8)++textA (nthL (fun _ x=>[trA x]) 0 r.nat):=⟨_,rfl⟩;rw[←hp];have HM2:Hid (q1.length+((textA (nthL (fun _ x=>[srA x]) 0 r.stat)++([]:List UInt8))).length≤140737488355328):=hid (by have:=HM0.out;rw[hp];simp only[List.length_append]at this⊢;omega);have HQ2:Hid (q1++(textA (nthL (fun _ x=>[srA x]) 0 r.stat)++([]:List UInt8))=textA (nthL (fun _ x=>[trA x]) 0 r.nat)++textA (nthL (fun _ x=>[srA x]) 0 r.stat)):=hid (by rw[hp];exact(List.append_assoc _ _ _).trans HQ0.out);clear hp HM0 HQ0;have HM:=HM2;have HQ:=HQ2;clear HM2 HQ2;go_wp2;go_loopg [3,6,7] r.stat.length (fun gh sv ix _ wr=>∃k:Nat,k+gh=r.stat.length∧ix=.int .i64 k∧sv=.string (str (q1++textA (nthL (fun _ x=>[srA x]) 0 (r.stat.take k))))∧Hid (YA [(41,gy,cl)] w wr));case atStart=>exact⟨0,by omega,rfl,by rw[List.take_zero,nthL,zAz,List.append_nil]<;>rfl,H⟩
 case round=>
  obtain⟨k,hk,rfl,rfl,HR⟩:=hrel;have cr:wr.cell? ⟨gy,7,none⟩=some (.slice A1 r.stat.length cp1):=(HR.out.a.cell 7).trans HC.out.2;by_cases hlt:k<r.stat.length;case neg=>
   have hkz:¬((k:Int)<(r.stat.length:Int)):=by omega
   rw[List.take_of_length_le (by omega)];go_wp2_with fail;have HZ:=HQ.out;rw[List.append_nil]at HZ;go_ret;exact⟨by rw[HZ];rfl,HR.out.b⟩
  have hkz:(k:Int)<(r.stat.length:Int):=by omega
  obtain⟨gr,o,c', e',-,hgr,R0⟩:=SlV.elem (n:=7) (by decide) (fun _=>rfl) HV1.out hlt;injection e' with e1 e2 e3
  subst e1 e3;have r1:=hid (zAf R0 (HR.out.b.mono hB.out) hgr);clear e2 R0;have HX:=hid (h2.out _ (List.getElem_mem hlt));have ET:=hid (zAy (fun _ x=>[srA x]) r.stat hlt);have HP:=hid (zBa (fun _ x=>[srA x]) r.stat hlt);generalize r.stat[k]=x at HX ET HP r1;obtain⟨p,hp⟩:∃zz,zz=q1++textA (nthL (fun _ x=>[srA x]) 0 (r.stat.take k)):=⟨_,rfl⟩;rw[←hp];have HN:Hid (textA ((fun _ x=>[srA x]) k x)=(joinW [[114,111,117,116,101],pfxF x.pa x.pl]++(tlW (goalA x)++(tlW (optL (!(x.admin==1)) [[97,100,109,105,110],decI x.admin])++(tlW (optL (!(x.tag==0)) [[116,97,103],decI x.tag])++([10]++([]:List UInt8))))))):=hid (by rw[zAx,srA,zJm,zHt,zHt];simp only[List.append_assoc,List.append_nil,List.nil_append,Bool.false_eq_true,if_false]);have HMp:Hid (p.length+((joinW [[114,111,117,116,101],pfxF x.pa x.pl]++(tlW (goalA x)++(tlW (optL (!(x.admin==1)) [[97,100,109,105,110],decI x.admin])++(tlW (optL (!(x.tag==0)) [[116,97,103],decI x.tag])++([10]++([]:List UInt8))))))).length≤140737488355328):=hid (by rw[←HN.out,hp,List.length_append];have h1:=HM.out;have h2:=HP.out;simp only[List.length_append]at h1⊢;omega);obtain⟨tzx,htzx⟩:∃zz,zz=p++(joinW [[114,111,117,116,101],pfxF x.pa x.pl]++(tlW (goalA x)++(tlW (optL (!(x.admin==1)) [[97,100,109,105,110],decI x.admin])++(tlW (optL (!(x.tag==0)) [[116,97,103],decI x.tag])++([10]++([]:List UInt8)))))):=⟨_,rfl⟩;have HTZx:Hid (tzx=q1++textA (nthL (fun _ x=>[srA x]) 0 (r.stat.take (k+1)))):=hid (by rw[ET.out,zAk,←List.append_assoc,←hp];exact htzx.trans (congrArg _ HN.out.symm));replace htzx:=hid htzx;clear HP HN hp ET;go_upto_region 16 with(first|(refine zAa rfl 109 _ rfl rfl r1.out Tryz.rowSr Tryz.sizeSr ?_)|(refine zAd rfl 109 _ _ rfl rfl rfl (HasC.new wr _ _) rfl Tryz.sizeSr (Sr.one x) ?_;intro w4 hz1 hz2))
  have H4:Hid (YA ((109,wr.heap.size,x.C) :: [(41,gy,cl)]) w w4):=hid (HR.out.new hz1 (zAi hz2));clear hz1 hz2 r1 HR cr;generalize wr.heap.size=gx at H4⊢;have HQp:Hid (p++(joinW [[114,111,117,116,101],pfxF x.pa x.pl]++(tlW (goalA x)++(tlW (optL (!(x.admin==1)) [[97,100,109,105,110],decI x.admin])++(tlW (optL (!(x.tag==0)) [[116,97,103],decI x.tag])++([10]++([]:List UInt8))))))=tzx):=hid htzx.out.symm;clear htzx;obtain⟨hk,k1,k2,f1,f2⟩:=HX.out;have c0:w4.cell? ⟨gx,0,none⟩=some (.int .u32 (x.pa:Int)):=H4.out.a.cell 0;have c1:w4.cell? ⟨gx,1,none⟩=some (.int .i64 x.pl):=H4.out.a.cell 1;go_upto_region 16 with fail
  try simp only[Act.put]
  go_cut [3] (fun v wx=>v=.string (str (p++joinW [[114,111,117,116,101],pfxF x.pa x.pl]))∧YA ((109,gx,x.C) :: [(41,gy,cl)]) w wx)
  case first=>
   have hj:p.length+(joinW [[114,111,117,116,101],pfxF x.pa x.pl]).length≤140737488355328:=(by have:=HMp.out;simp only[List.length_append]at this⊢;omega);go_wp2_with (refine zAh rfl rfl rfl rfl (by simp[joinW]at hj⊢;omega) ?_);refine(zDe x.pa x.pl _ f1).mono ?_;rintro e w1 ⟨rfl,hb⟩;have H1:=hid (H4.out.below hb);clear hb;go_wp2_with (refine zAh rfl rfl rfl rfl (by simp[joinW]at hj⊢;omega) ?_);go_meet;exact⟨by simp[joinW],H1.out⟩
  case rest=>
  clear H4 c0 c1;obtain⟨rfl,hcut⟩:=hcut;have H:=hid hcut;clear hcut;obtain⟨q1x,hp⟩:∃zz,zz=p++joinW [[114,111,117,116,101],pfxF x.pa x.pl]:=⟨_,rfl⟩;rw[←hp];have HM2:Hid (q1x.length+((tlW (goalA x)++(tlW (optL (!(x.admin==1)) [[97,100,109,105,110],decI x.admin])++(tlW (optL (!(x.tag==0)) [[116,97,103],decI x.tag])++([10]++([]:List UInt8)))))).length≤140737488355328):=hid (by have:=HMp.out;rw[hp];simp only[List.length_append]at this⊢;omega);have HQ2:Hid (q1x++(tlW (goalA x)++(tlW (optL (!(x.admin==1)) [[97,100,109,105,110],decI x.admin])++(tlW (optL (!(x.tag==0)) [[116,97,103],decI x.tag])++([10]++([]:List UInt8)))))=tzx):=hid (by rw[hp];exact(List.append_assoc _ _ _).trans HQp.out);clear hp HMp HQp;have HM:=HM2;have HQ:=HQ2;clear HM2 HQ2;have c2:wc.cell? ⟨gx,2,none⟩=some (.int .u32 (x.next:Int)):=H.out.a.cell 2;have c3:wc.cell? ⟨gx,3,none⟩=some (.string (str x.iface)):=H.out.a.cell 3;have c4:wc.cell? ⟨gx,4,none⟩=some (.bool x.discard):=H.out.a.cell 4;go_upto_block 5 with fail
  go_cut [3] (fun v wx=>v=.string (str (q1x++tlW (goalA x)))∧YA ((109,gx,x.C) :: [(41,gy,cl)]) w wx)
  case first=>
   have hg:=goal_ways hk;clear hk;rcases hg with⟨d1,d2,d3⟩|⟨d1,d2,d3⟩|⟨d1,d2,d3⟩
   ·have E:tlW (goalA x)=tlW [[100,105,115,99,97,114,100]]:=congrArg tlW (by rw[goalA,d2,d3];rfl)
    have hj:q1x.length+(tlW [[100,105,115,99,97,114,100]]).length≤140737488355328:=(by rw[←E];have:=HM.out;simp only[List.length_append]at this⊢;omega);have hs:=zCg d3;rw[d1]at c4;go_wp2_with (refine zAh rfl rfl rfl rfl (by simp[tlW]at hj⊢;omega) ?_);go_meet;exact⟨by rw[E];simp[tlW],H.out⟩
   ·have E:tlW (goalA x)=tlW [[105,110,116,101,114,102,97,99,101],x.iface]:=congrArg tlW (by rw[goalA,d2,d3];rfl)
    have hj:q1x.length+(tlW [[105,110,116,101,114,102,97,99,101],x.iface]).length≤140737488355328:=(by rw[←E];have:=HM.out;simp only[List.length_append]at this⊢;omega);have hs:=zCm d3;rw[d1]at c4;go_wp2_with (refine zAh rfl rfl rfl rfl (by simp[tlW]at hj⊢;omega) ?_);go_meet;exact⟨by rw[E];simp[tlW],H.out⟩
   ·have E:tlW (goalA x)=tlW [[118,105,97],fmtA x.next]:=congrArg tlW (by rw[goalA,if_pos (by simpa using d2)])
    have hj:q1x.length+(tlW [[118,105,97],fmtA x.next]).length≤140737488355328:=(by rw[←E];have:=HM.out;simp only[List.length_append]at this⊢;omega);have hs:=zCg d3;rw[d1]at c4;go_wp2_with (refine zAh rfl rfl rfl rfl (by simp[tlW]at hj⊢;omega) ?_);refine(zDj x.next _ f2).mono ?_;rintro e w1 ⟨rfl,rfl⟩;go_wp2_with (refine zAh rfl rfl rfl rfl (by simp[tlW]at hj⊢;omega) ?_);go_meet;exact⟨by rw[E];simp[tlW],H.out⟩
  case rest=>
  clear H c2 c3 c4;obtain⟨rfl,hcut⟩:=hcut;have H:=hid hcut;clear hcut;obtain⟨q2x,hp⟩:∃zz,zz=q1x++tlW (goalA x):=⟨_,rfl⟩;rw[←hp];have HM2:Hid (q2x.length+((tlW (optL (!(x.admin==1)) [[97,100,109,105,110],decI x.admin])++(tlW (optL (!(x.tag==0)) [[116,97,103],decI x.tag])++([10]++([]:List UInt8))))).length≤140737488355328):=hid (by have:=HM.out;rw[hp];simp only[List.length_append]at this⊢;omega);have HQ2:Hid (q2x++(tlW (optL (!(x.admin==1)) [[97,100,109,105,110],decI x.admin])++(tlW (optL (!(x.tag==0)) [[116,97,103],decI x.tag])++([10]++([]:List UInt8))))=tzx):=hid (by rw[hp];exact(List.append_assoc _ _ _).trans HQ.out);clear hp HM HQ;have HM:=HM2;have HQ:=HQ2;clear HM2 HQ2;have c5:wc.cell? ⟨gx,5,none⟩=some (.int .i64 x.admin):=H.out.a.cell 5;go_upto_if 121 with fail
  go_cut [3] (fun v wx=>v=.string (str (q2x++tlW (optL (!(x.admin==1)) [[97,100,109,105,110],decI x.admin])))∧YA ((109,gx,x.C) :: [(41,gy,cl)]) w wx)
  case first=>
   cases hc:(!(x.admin==1))with
   |true=>
    have E:tlW (optL (!(x.admin==1)) [[97,100,109,105,110],decI x.admin])=tlW [[97,100,109,105,110],decI x.admin]:=zEz hc;have hj:q2x.length+(tlW [[97,100,109,105,110],decI x.admin]).length≤140737488355328:=(by rw[←E];have:=HM.out;simp only[List.length_append]at this⊢;omega);have hs:(x.admin != 1)=true:=hc;rw[hs];refine wp_cond_true rfl ?_;go_wp2_with (refine zAh rfl rfl rfl rfl (by simp[tlW]at hj⊢;omega) ?_);refine(zBm x.admin _ (by omega) (by omega)).mono ?_;rintro e w1 ⟨rfl,rfl⟩;go_wp2_with (refine zAh rfl rfl rfl rfl (by simp[tlW]at hj⊢;omega) ?_);go_meet;exact⟨by rw[E];simp[tlW],H.out⟩
   |false=>
    have hs:(x.admin != 1)=false:=hc;rw[hs];refine wp_cond_false rfl ?_;go_wp2;go_meet;exact⟨by rw[show tlW (optL (!(x.admin==1)) [[97,100,109,105,110],decI x.admin])=[]from zDz hc,List.append_nil],H.out⟩
  case rest=>
  clear H c5;obtain⟨rfl,hcut⟩:=hcut;have H:=hid hcut;clear hcut;obtain⟨q3x,hp⟩:∃zz,zz=q2x++tlW (optL (!(x.admin==1)) [[97,100,109,105,110],decI x.admin]):=⟨_,rfl⟩;rw[←hp];have HM2:Hid (q3x.length+((tlW (optL (!(x.tag==0)) [[116,97,103],decI x.tag])++([10]++([]:List UInt8)))).length≤140737488355328):=hid (by have:=HM.out;rw[hp];simp only[List.length_append]at this⊢;omega);have HQ2:Hid (q3x++(tlW (optL (!(x.tag==0)) [[116,97,103],decI x.tag])++([10]++([]:List UInt8)))=tzx):=hid (by rw[hp];exact(List.append_assoc _ _ _).trans HQ.out);clear hp HM HQ;have HM:=HM2;have HQ:=HQ2;clear HM2 HQ2;have c6:wc.cell? ⟨gx,6,none⟩=some (.int .i64 x.tag):=H.out.a.cell 6;go_upto_if 130 with fail
  go_cut [3] (fun v wx=>v=.string (str (q3x++tlW (optL (!(x.tag==0)) [[116,97,103],decI x.tag])))∧YA ((109,gx,x.C) :: [(41,gy,cl)]) w wx)
  case first=>
   cases hc:(!(x.tag==0))with
   |true=>
    have E:tlW (optL (!(x.tag==0)) [[116,97,103],decI x.tag])=tlW [[116,97,103],decI x.tag]:=zEz hc;have hj:q3x.length+(tlW [[116,97,103],decI x.tag]).length≤140737488355328:=(by rw[←E];have:=HM.out;simp only[List.length_append]at this⊢;omega);have hs:(x.tag != 0)=true:=hc;rw[hs];refine wp_cond_true rfl ?_;go_wp2_with (refine zAh rfl rfl rfl rfl (by simp[tlW]at hj⊢;omega) ?_);refine(zBm x.tag _ (by omega) (by omega)).mono ?_;rintro e w1 ⟨rfl,rfl⟩;go_wp2_with (refine zAh rfl rfl rfl rfl (by simp[tlW]at hj⊢;omega) ?_);go_meet;exact⟨by rw[E];simp[tlW],H.out⟩
   |false=>
    have hs:(x.tag != 0)=false:=hc;rw[hs];refine wp_cond_false rfl ?_;go_wp2;go_meet;exact⟨by rw[show tlW (optL (!(x.tag==0)) [[116,97,103],decI x.tag])=[]from zDz hc,List.append_nil],H.out⟩
  case rest=>
  clear H c6;obtain⟨rfl,hcut⟩:=hcut;have H:=hid hcut;clear hcut;obtain⟨q4x,hp⟩:∃zz,zz=q3x++tlW (optL (!(x.tag==0)) [[116,97,103],decI x.tag]):=⟨_,rfl⟩;rw[←hp];have HM2:Hid (q4x.length+(([10]++([]:List UInt8))).length≤140737488355328):=hid (by have:=HM.out;rw[hp];simp only[List.length_append]at this⊢;omega);have HQ2:Hid (q4x++([10]++([]:List UInt8))=tzx):=hid (by rw[hp];exact(List.append_assoc _ _ _).trans HQ.out);clear hp HM HQ;have HM:=HM2;have HQ:=HQ2;clear HM2 HQ2;have hj:q4x.length+([10]).length≤140737488355328:=(by have:=HM.out;simp only[List.length_append]at this⊢;omega);have HZ:Hid (q4x++[10]=tzx):=hid (by have:=HQ.out;rwa [List.append_nil]at this);go_wp2_with (refine zAh rfl rfl rfl rfl (by simp at hj⊢;omega) ?_);go_roundg (r.stat.length - (k+1));case measure=>omega
  case rel=>
   refine⟨k+1,by omega,by go_num,?_,hid (H.out.pop)⟩;rw[←HTZx.out,←HZ.out]
theorem rlists_any(r:Rt)(w:World)(B:Nat)(hB:B≤w.heap.size)(hr:r.at w B)(hsh:Shorts r)(h1:∀x∈r.lists,∀y∈x.rules,zEg y=true∧y.fit)(h2:∀x∈r.maps,∀y∈x.clauses,zCr y=true)(h3:∀x∈r.acls,∀y∈x.rules,zCp y=true∧y.fit)(hl:(textA (zEa r)).length≤140737488355328) :
  Calls Tryz.prog 22 #[.agg r.C] w (YP (textA (zEa r)) w):=by
 have HT:textA (zEa r)=textA (nthL (fun _=>plA) 0 r.lists)++(textA (nthL (fun _=>mpA) 0 r.maps)++(textA (nthL (fun _=>acA) 0 r.acls))):=by rw[zEa,zAk,zAk,zFg plA _ 0,zFg mpA _ 0,zFg acA _ 0]
 rw[HT]at hl⊢;clear HT;have hx0:=hid fun x hx=>And.intro (hr.nlists x hx) (And.intro (hsh.lists.2 x hx) (h1 x hx))
 have hx1:=hid fun x hx=>And.intro (hr.nmaps x hx) (And.intro (hsh.maps.2 x hx) (h2 x hx))
 have hx2:=hid fun x hx=>And.intro (hr.nacls x hx) (And.intro (hsh.acls.2 x hx) (h3 x hx))
 have HM0:Hid (([]:List UInt8).length+((textA (nthL (fun _=>plA) 0 r.lists)++(textA (nthL (fun _=>mpA) 0 r.maps)++(textA (nthL (fun _=>acA) 0 r.acls)++([]:List UInt8))))).length≤140737488355328):=hid (by simp only[List.length_append,List.length_nil]at hl⊢;omega);have HQ0:Hid ([]++(textA (nthL (fun _=>plA) 0 r.lists)++(textA (nthL (fun _=>mpA) 0 r.maps)++(textA (nthL (fun _=>acA) 0 r.acls)++([]:List UInt8))))=textA (nthL (fun _=>plA) 0 r.lists)++(textA (nthL (fun _=>mpA) 0 r.maps)++(textA (nthL (fun _=>acA) 0 r.acls)))):=hid (by simp only[List.nil_append,List.append_nil]);have HV0:=hid hr.hlists;have hn0:r.lists.length≤9223372036854775807:=by have:=hr.hlists.len;unfold maxLen at this;omega
 obtain⟨A0,cp0,hve0,-,-⟩:=hr.hlists;rw[hve0]at HV0;have HV1:=hid hr.hmaps;have hn1:r.maps.length≤9223372036854775807:=by have:=hr.hmaps.len;unfold maxLen at this;omega
 obtain⟨A1,cp1,hve1,-,-⟩:=hr.hmaps;rw[hve1]at HV1;have HV2:=hid hr.hacls;have hn2:r.acls.length≤9223372036854775807:=by have:=hr.hacls.len;unfold maxLen at this;omega
 obtain⟨A2,cp2,hve2,-,-⟩:=hr.hacls;rw[hve2]at HV2;replace hB:=hid hB;have H:=hid ((YA.start w).new (HasC.new w 41 r.C) ((Below.refl w.heap.size w).alloc (Nat.le_refl _) _));have HC:Hid (r.C[3]? = some (.slice A0 r.lists.length cp0)∧r.C[4]? = some (.slice A1 r.maps.length cp1)∧r.C[5]? = some (.slice A2 r.acls.length cp2)):=hid ⟨congrArg some hve0,congrArg some hve1,congrArg some hve2⟩;clear hl hr hve0 hve1 hve2 hsh h1 h2 h3;go_enter Tryz.func22,Tryz.ntmps22;go_upto_region 1 with fail
 generalize w.alloc (.cells r.C 41)=wa at H⊢;generalize w.heap.size=gy at H⊢;obtain⟨cl,hcl⟩:∃cl,cl=r.C:=⟨_,rfl⟩;rw[←hcl]at H HC;replace hcl:=hid hcl;go_upto_block 0 with fail
 go_cut [3] (fun v wx=>v=.string (str (([]:List UInt8)++textA (nthL (fun _=>plA) 0 r.lists)))∧YA [(41,gy,cl)] w wx)
 case first=>
  as_aux_lemma=>
  go_wp2;go_loopg [3,4,5,6,7] r.lists.length (fun gh sv ix _ _ _ wr=>∃k:Nat,k+gh=r.lists.length∧ix=.int .i64 k∧sv=.string (str (([]:List UInt8)++textA (nthL (fun _=>plA) 0 (r.lists.take k))))∧Hid (YA [(41,gy,cl)] w wr));case atStart=>exact⟨0,by omega,rfl,by rw[List.take_zero,nthL,zAz,List.append_nil]<;>rfl,H⟩
  case round=>
   obtain⟨k,hk,rfl,rfl,HR⟩:=hrel;have cr:wr.cell? ⟨gy,3,none⟩=some (.slice A0 r.lists.length cp0):=(HR.out.a.cell 3).trans HC.out.1;by_cases hlt:k<r.lists.length;case neg=>
    have hkz:¬((k:Int)<(r.lists.length:Int)):=by omega
    rw[List.take_of_length_le (by omega)];go_wp2;go_meet;exact⟨rfl,HR.out⟩
   have hkz:(k:Int)<(r.lists.length:Int):=by omega
   obtain⟨gr,o,c', e',-,hgr,R0⟩:=SlV.elem (n:=2) (by decide) (fun _=>rfl) HV0.out hlt;injection e' with e1 e2 e3
   subst e1 e3;have r1:=hid (zAf R0 (HR.out.b.mono hB.out) hgr);have RK:Hid (∀W,YA [(41,gy,cl)] w W→_):=hid fun W hW=>zAf R0 (hW.b.mono hB.out) hgr
   clear e2 R0;have HX:=hid (hx0.out _ (List.getElem_mem hlt));have ET:=hid (zAy (fun _=>plA) r.lists hlt);have HP:=hid (zBa (fun _=>plA) r.lists hlt);generalize r.lists[k]=x at HX ET HP r1 RK;obtain⟨p,hp⟩:∃zz,zz=([]:List UInt8)++textA (nthL (fun _=>plA) 0 (r.lists.take k)):=⟨_,rfl⟩;rw[←hp];have HN:Hid (textA ((fun _=>plA) k x)=textA (nthL (fun k y=>[prA x.name k y]) 0 x.rules)):=hid (rfl);have HMp:Hid (p.length+(textA (nthL (fun k y=>[prA x.name k y]) 0 x.rules)).length≤140737488355328):=hid (by rw[←HN.out,hp,List.length_append];have h1:=HM0.out;have h2:=HP.out;simp only[List.length_append]at h1⊢;omega);obtain⟨tzx,htzx⟩:∃zz,zz=p++textA (nthL (fun k y=>[prA x.name k y]) 0 x.rules):=⟨_,rfl⟩;have HTZx:Hid (tzx=([]:List UInt8)++textA (nthL (fun _=>plA) 0 (r.lists.take (k+1)))):=hid (by rw[ET.out,zAk,←List.append_assoc,←hp];exact htzx.trans (congrArg _ HN.out.symm));replace htzx:=hid htzx;clear HP HN hp ET;obtain⟨hat,hsx,hy⟩:=HX.out;replace hy:=hid hy;have HVI:=hid hat;have hni:x.rules.length≤9223372036854775807:=by omega
   obtain⟨AI,cI,hvi,-,-⟩:=hat;have HVJ:Hid (SlV w B 5 PRule.C (.slice AI x.rules.length cI) x.rules):=hid (by have:=HVI.out;unfold PList.at at this;rwa [hvi]at this);have HW:Hid (∀W,YA [(41,gy,cl)] w W→W.cell? ⟨gr,o+k*2,none⟩=some (.string (str x.name))∧W.cell? ⟨gr,o+k*2+1,none⟩=some (.slice AI x.rules.length cI)):=hid fun W hW=>have q:=RK.out W hW;⟨q 0 _ rfl,(q 1 _ rfl).trans (congrArg some hvi)⟩
   clear HVI HX RK hvi r1;obtain⟨q0,q1⟩:=HW.out _ HR.out;go_wp2;go_loopg [3,5,6,7] x.rules.length (fun gh sv ix _ _ wr=>∃j:Nat,j+gh=x.rules.length∧ix=.int .i64 j∧sv=.string (str (p++textA (nthL (fun k y=>[prA x.name k y]) 0 (x.rules.take j))))∧Hid (YA [(41,gy,cl)] w wr));case atStart=>exact⟨0,by omega,rfl,by rw[List.take_zero,nthL,zAz,List.append_nil]<;>rfl,HR⟩
   case round=>
    as_aux_lemma=>
    obtain⟨j,hk,rfl,rfl,HR⟩:=hrel;have cr:wr.cell? ⟨gy,3,none⟩=some (.slice (some ⟨gr,o,none⟩) r.lists.length cp0):=(HR.out.a.cell 3).trans HC.out.1;obtain⟨q0,q1⟩:=HW.out _ HR.out;by_cases hlt:j<x.rules.length;case neg=>
     have hkz:¬((j:Int)<(x.rules.length:Int)):=by omega
     rw[List.take_of_length_le (by omega)];go_wp2;go_roundg (r.lists.length - (k+1));case measure=>omega
     case rel=>
      refine⟨k+1,by omega,by go_num,?_,HR⟩;rw[←HTZx.out,htzx.out]
    have hkz:(j:Int)<(x.rules.length:Int):=by omega
    obtain⟨gp,op,c', e',-,hgr,R0⟩:=SlV.elem (n:=5) (by decide) (fun _=>rfl) HVJ.out hlt;injection e' with e1 e2 e3
    subst e1 e3;have r1:=hid (zAf R0 (HR.out.b.mono hB.out) hgr);clear e2 R0;have HX:=hid (hy.out _ (List.getElem_mem hlt));have ET:=hid (zAy (fun k y=>[prA x.name k y]) x.rules hlt);have HP:=hid (zBa (fun k y=>[prA x.name k y]) x.rules hlt);generalize x.rules[j]=y at HX ET HP r1;obtain⟨q,hp⟩:∃zz,zz=p++textA (nthL (fun k y=>[prA x.name k y]) 0 (x.rules.take j)):=⟨_,rfl⟩;rw[←hp];have HN:Hid (textA ((fun k y=>[prA x.name k y]) j y)=(joinW [[112,114,101,102,105,120,45,108,105,115,116],x.name,nthW j,yesW y.permit,pfxF y.pa y.pl]++(tlW (optL (!(y.min==y.pl)) [[103,101],decI y.min])++(tlW (optL (!(y.max==(if y.min==y.pl then y.pl else 32))) [[108,101],decI y.max])++([10]++([]:List UInt8)))))):=hid (by rw[zAx,prA,zJm,zHt];simp only[List.append_assoc,List.append_nil,List.nil_append,Bool.false_eq_true,if_false]);have HMq:Hid (q.length+((joinW [[112,114,101,102,105,120,45,108,105,115,116],x.name,nthW j,yesW y.permit,pfxF y.pa y.pl]++(tlW (optL (!(y.min==y.pl)) [[103,101],decI y.min])++(tlW (optL (!(y.max==(if y.min==y.pl then y.pl else 32))) [[108,101],decI y.max])++([10]++([]:List UInt8)))))).length≤140737488355328):=hid (by rw[←HN.out,hp,List.length_append];have h1:=HMp.out;have h2:=HP.out;(try dsimp only at h1 h2⊢);omega);obtain⟨tzy,htzy⟩:∃zz,zz=q++(joinW [[112,114,101,102,105,120,45,108,105,115,116],x.name,nthW j,yesW y.permit,pfxF y.pa y.pl]++(tlW (optL (!(y.min==y.pl)) [[103,101],decI y.min])++(tlW (optL (!(y.max==(if y.min==y.pl then y.pl else 32))) [[108,101],decI y.max])++([10]++([]:List UInt8))))):=⟨_,rfl⟩;have HTZy:Hid (tzy=p++textA (nthL (fun k y=>[prA x.name k y]) 0 (x.rules.take (j+1)))):=hid (by rw[ET.out,zAk,←List.append_assoc,←hp];exact htzy.trans (congrArg _ HN.out.symm));replace htzy:=hid htzy;clear HP HN hp ET;go_upto_region 9 with(first|(refine zAa rfl 92 _ rfl rfl r1.out Tryz.rowPRule Tryz.sizePRule ?_)|(refine zAd rfl 92 _ _ rfl rfl rfl (HasC.new wr _ _) rfl Tryz.sizePRule (PRule.one y) ?_;intro w4 hz1 hz2))
    have H4:Hid (YA ((92,wr.heap.size,y.C) :: [(41,gy,cl)]) w w4):=hid (HR.out.new hz1 (zAi hz2));clear hz1 hz2 r1 HR cr q0 q1;generalize wr.heap.size=gz at H4⊢;have HQq:Hid (q++(joinW [[112,114,101,102,105,120,45,108,105,115,116],x.name,nthW j,yesW y.permit,pfxF y.pa y.pl]++(tlW (optL (!(y.min==y.pl)) [[103,101],decI y.min])++(tlW (optL (!(y.max==(if y.min==y.pl then y.pl else 32))) [[108,101],decI y.max])++([10]++([]:List UInt8)))))=tzy):=hid htzy.out.symm;clear htzy;obtain⟨hry,hfy⟩:=HX.out;obtain⟨hv,k1,k2,k3⟩:=pr_ok hry;have k0:=(validP_in hv).1;clear hv hry;have hja:j≤100000:=by omega
    obtain⟨w1,w2⟩:=place_run j hja;go_upto_region 9 with fail
    try simp only[Act.put]
    go_cut [3] (fun v wx=>v=.string (str (q++joinW [[112,114,101,102,105,120,45,108,105,115,116],x.name,nthW j,yesW y.permit,pfxF y.pa y.pl]))∧YA ((92,gz,y.C) :: [(41,gy,cl)]) w wx)
    case first=>
     as_aux_lemma=>
     have hj:q.length+(joinW [[112,114,101,102,105,120,45,108,105,115,116],x.name,nthW j,yesW y.permit,pfxF y.pa y.pl]).length≤140737488355328:=(by have:=HMq.out;simp only[List.length_append]at this⊢;omega);have HX:Hid (∀W,YA ((92,gz,y.C) :: [(41,gy,cl)]) w W→W.cell? ⟨gy,3,none⟩=some (.slice (some ⟨gr,o,none⟩) r.lists.length cp0)∧W.cell? ⟨gr,o+k*2,none⟩=some (.string (str x.name))∧W.cell? ⟨gz,0,none⟩=some (.bool y.permit)∧W.cell? ⟨gz,1,none⟩=some (.int .u32 (y.pa:Int))∧W.cell? ⟨gz,2,none⟩=some (.int .i64 y.pl)):=hid fun W hW=>⟨(hW.pop.a.cell 3).trans HC.out.1,(HW.out W hW.pop).1,hW.a.cell 0,hW.a.cell 1,hW.a.cell 2⟩
     refine zAo (fun W=>YA ((92,gz,y.C) :: [(41,gy,cl)]) w W) (by kernel_rfl) (by kernel_rfl) H4.out.drew ?_
     repeat
      (first
       |(refine zDy rfl rfl rfl rfl ?_ ?_;(· (simp[joinW]at hj⊢;omega)))
       |(refine zBd (v:=?_) ?_ ?_ ?_;rotate_left;(· rfl);(· (intro W hW;obtain⟨cr,q0,c0,c1,c2⟩:=HX.out W hW;go_simp<;>rfl)))
       |(refine zAm ?_ ?_ (fun W hW=>(zJd j hja W).mono fun e w' ⟨he,hw⟩=>⟨he,hw ▸ hW⟩) ?_;(· rfl);(· (intro W hW;go_simp<;>rfl)))
       |(refine zAm ?_ ?_ (fun W hW=>(zIb y.permit W).mono fun e w' ⟨he,hw⟩=>⟨he,hw ▸ hW⟩) ?_;(· rfl);(· (intro W hW;go_simp<;>rfl)))
       |(refine zAm ?_ ?_ (fun W hW=>hW.call (zDe y.pa y.pl W hfy)) ?_;(· rfl);(· (intro W hW;go_simp<;>rfl))))
      simp only[Act.put,List.setIfInBounds_toArray,List.set_cons_zero,List.set_cons_succ]
     refine zBo (fun wq hS=>?_);have HS:=hid hS;clear hS HX;go_wp2;go_meet;exact⟨by simp[joinW],HS.out⟩
    case rest=>
    clear H4;obtain⟨rfl,hcut⟩:=hcut;have H:=hid hcut;clear hcut;obtain⟨q1y,hp⟩:∃zz,zz=q++joinW [[112,114,101,102,105,120,45,108,105,115,116],x.name,nthW j,yesW y.permit,pfxF y.pa y.pl]:=⟨_,rfl⟩;rw[←hp];have HM2:Hid (q1y.length+((tlW (optL (!(y.min==y.pl)) [[103,101],decI y.min])++(tlW (optL (!(y.max==(if y.min==y.pl then y.pl else 32))) [[108,101],decI y.max])++([10]++([]:List UInt8))))).length≤140737488355328):=hid (by have:=HMq.out;rw[hp];simp only[List.length_append]at this⊢;omega);have HQ2:Hid (q1y++(tlW (optL (!(y.min==y.pl)) [[103,101],decI y.min])++(tlW (optL (!(y.max==(if y.min==y.pl then y.pl else 32))) [[108,101],decI y.max])++([10]++([]:List UInt8))))=tzy):=hid (by rw[hp];exact(List.append_assoc _ _ _).trans HQq.out);clear hp HMq HQq;have HM:=HM2;have HQ:=HQ2;clear HM2 HQ2;obtain⟨most,hm⟩:∃most,most=(if y.min==y.pl then y.pl else 32):=⟨_,rfl⟩;rw[←hm]at HM HQ;replace hm:=hid hm;have c2:wc.cell? ⟨gz,2,none⟩=some (.int .i64 y.pl):=H.out.a.cell 2;have c3:wc.cell? ⟨gz,3,none⟩=some (.int .i64 y.min):=H.out.a.cell 3;go_upto_if 74 with fail
    go_cut [3,7] (fun v m wx=>m=.int .i64 most∧v=.string (str (q1y++tlW (optL (!(y.min==y.pl)) [[103,101],decI y.min])))∧YA ((92,gz,y.C) :: [(41,gy,cl)]) w wx)
    case first=>
     as_aux_lemma=>
     cases hc:(!(y.min==y.pl))with
     |true=>
      have E:tlW (optL (!(y.min==y.pl)) [[103,101],decI y.min])=tlW [[103,101],decI y.min]:=zEz hc;have hj:q1y.length+(tlW [[103,101],decI y.min]).length≤140737488355328:=(by rw[←E];have:=HM.out;simp only[List.length_append]at this⊢;omega);have hs:(y.min != y.pl)=true:=hc;have e0:(32:Int)=most:=by rw[hm.out,show(y.min==y.pl)=false by simpa using hc];rfl
      rw[hs];refine wp_cond_true rfl ?_;go_wp2_with (refine zAh rfl rfl rfl rfl (by simp[tlW]at hj⊢;omega) ?_);refine(zBm y.min _ (by omega) (by omega)).mono ?_;rintro e w1 ⟨rfl,rfl⟩;go_wp2_with (refine zAh rfl rfl rfl rfl (by simp[tlW]at hj⊢;omega) ?_);go_meet;exact⟨by rw[←e0],by rw[E];simp[tlW],H.out⟩
     |false=>
      have hs:(y.min != y.pl)=false:=hc;have e0:y.pl=most:=by rw[hm.out,show(y.min==y.pl)=true by simpa using hc];rfl
      rw[hs];refine wp_cond_false rfl ?_;go_wp2;go_meet;exact⟨by rw[←e0],by rw[show tlW (optL (!(y.min==y.pl)) [[103,101],decI y.min])=[]from zDz hc,List.append_nil],H.out⟩
    case rest=>
    clear H c2 c3;obtain⟨rfl,rfl,hcut⟩:=hcut;have H:=hid hcut;clear hcut;obtain⟨q2y,hp⟩:∃zz,zz=q1y++tlW (optL (!(y.min==y.pl)) [[103,101],decI y.min]):=⟨_,rfl⟩;rw[←hp];have HM2:Hid (q2y.length+((tlW (optL (!(y.max==most)) [[108,101],decI y.max])++([10]++([]:List UInt8)))).length≤140737488355328):=hid (by have:=HM.out;rw[hp];simp only[List.length_append]at this⊢;omega);have HQ2:Hid (q2y++(tlW (optL (!(y.max==most)) [[108,101],decI y.max])++([10]++([]:List UInt8)))=tzy):=hid (by rw[hp];exact(List.append_assoc _ _ _).trans HQ.out);clear hp HM HQ;have HM:=HM2;have HQ:=HQ2;clear HM2 HQ2;have c4:wc.cell? ⟨gz,4,none⟩=some (.int .i64 y.max):=H.out.a.cell 4;go_upto_if 84 with fail
    go_cut [3] (fun v wx=>v=.string (str (q2y++tlW (optL (!(y.max==most)) [[108,101],decI y.max])))∧YA ((92,gz,y.C) :: [(41,gy,cl)]) w wx)
    case first=>
     as_aux_lemma=>
     cases hc:(!(y.max==most))with
     |true=>
      have E:tlW (optL (!(y.max==most)) [[108,101],decI y.max])=tlW [[108,101],decI y.max]:=zEz hc;have hj:q2y.length+(tlW [[108,101],decI y.max]).length≤140737488355328:=(by rw[←E];have:=HM.out;simp only[List.length_append]at this⊢;omega);have hs:(y.max != most)=true:=hc;rw[hs];refine wp_cond_true rfl ?_;go_wp2_with (refine zAh rfl rfl rfl rfl (by simp[tlW]at hj⊢;omega) ?_);refine(zBm y.max _ (by omega) (by omega)).mono ?_;rintro e w1 ⟨rfl,rfl⟩;go_wp2_with (refine zAh rfl rfl rfl rfl (by simp[tlW]at hj⊢;omega) ?_);go_meet;exact⟨by rw[E];simp[tlW],H.out⟩
     |false=>
      have hs:(y.max != most)=false:=hc;rw[hs];refine wp_cond_false rfl ?_;go_wp2;go_meet;exact⟨by rw[show tlW (optL (!(y.max==most)) [[108,101],decI y.max])=[]from zDz hc,List.append_nil],H.out⟩
    case rest=>
    clear H c4;obtain⟨rfl,hcut⟩:=hcut;have H:=hid hcut;clear hcut;obtain⟨q3y,hp⟩:∃zz,zz=q2y++tlW (optL (!(y.max==most)) [[108,101],decI y.max]):=⟨_,rfl⟩;rw[←hp];have HM2:Hid (q3y.length+(([10]++([]:List UInt8))).length≤140737488355328):=hid (by have:=HM.out;rw[hp];simp only[List.length_append]at this⊢;omega);have HQ2:Hid (q3y++([10]++([]:List UInt8))=tzy):=hid (by rw[hp];exact(List.append_assoc _ _ _).trans HQ.out);clear hp HM HQ;have HM:=HM2;have HQ:=HQ2;clear HM2 HQ2;have hj:q3y.length+([10]).length≤140737488355328:=(by have:=HM.out;simp only[List.length_append]at this⊢;omega);have HZ:Hid (q3y++[10]=tzy):=hid (by have:=HQ.out;rwa [List.append_nil]at this);go_wp2_with (refine zAh rfl rfl rfl rfl (by simp at hj⊢;omega) ?_);go_roundg (x.rules.length - (j+1));case measure=>omega
    case rel=>
     refine⟨j+1,by omega,by go_num,?_,hid (H.out.pop)⟩;rw[←HTZy.out,←HZ.out]
 case rest=>
 clear H;obtain⟨rfl,hcut⟩:=hcut;have H:=hid hcut;clear hcut;obtain⟨q1,hp⟩:∃zz,zz=([]:List UInt8)++textA (nthL (fun _=>plA) 0 r.lists):=⟨_,rfl⟩;rw[←hp];have HM2:Hid (q1.length+((textA (nthL (fun _=>mpA) 0 r.maps)++(textA (nthL (fun _=>acA) 0 r.acls)++([]:List UInt8)))).length≤140737488355328):=hid (by have:=HM0.out;rw[hp];simp only[List.length_append]at this⊢;omega);have HQ2:Hid (q1++(textA (nthL (fun _=>mpA) 0 r.maps)++(textA (nthL (fun _=>acA) 0 r.acls)++([]:List UInt8)))=textA (nthL (fun _=>plA) 0 r.lists)++(textA (nthL (fun _=>mpA) 0 r.maps)++(textA (nthL (fun _=>acA) 0 r.acls)))):=hid (by rw[hp];exact(List.append_assoc _ _ _).trans HQ0.out);clear hp HM0 HQ0;have HM:=HM2;have HQ:=HQ2;clear HM2 HQ2;go_upto_block 4 with fail
 go_cut [3] (fun v wx=>v=.string (str (q1++textA (nthL (fun _=>mpA) 0 r.maps)))∧YA [(41,gy,cl)] w wx)
 case first=>
  as_aux_lemma=>
  go_wp2;go_loopg [3,8,9,10] r.maps.length (fun gh sv ix _ _ wr=>∃k:Nat,k+gh=r.maps.length∧ix=.int .i64 k∧sv=.string (str (q1++textA (nthL (fun _=>mpA) 0 (r.maps.take k))))∧Hid (YA [(41,gy,cl)] w wr));case atStart=>exact⟨0,by omega,rfl,by rw[List.take_zero,nthL,zAz,List.append_nil]<;>rfl,H⟩
  case round=>
   obtain⟨k,hk,rfl,rfl,HR⟩:=hrel;have cr:wr.cell? ⟨gy,4,none⟩=some (.slice A1 r.maps.length cp1):=(HR.out.a.cell 4).trans HC.out.2.1;by_cases hlt:k<r.maps.length;case neg=>
    have hkz:¬((k:Int)<(r.maps.length:Int)):=by omega
    rw[List.take_of_length_le (by omega)];go_wp2;go_meet;exact⟨rfl,HR.out⟩
   have hkz:(k:Int)<(r.maps.length:Int):=by omega
   obtain⟨gr,o,c', e',-,hgr,R0⟩:=SlV.elem (n:=2) (by decide) (fun _=>rfl) HV1.out hlt;injection e' with e1 e2 e3
   subst e1 e3;have r1:=hid (zAf R0 (HR.out.b.mono hB.out) hgr);have RK:Hid (∀W,YA [(41,gy,cl)] w W→_):=hid fun W hW=>zAf R0 (hW.b.mono hB.out) hgr
   clear e2 R0;have HX:=hid (hx1.out _ (List.getElem_mem hlt));have ET:=hid (zAy (fun _=>mpA) r.maps hlt);have HP:=hid (zBa (fun _=>mpA) r.maps hlt);generalize r.maps[k]=x at HX ET HP r1 RK;obtain⟨p,hp⟩:∃zz,zz=q1++textA (nthL (fun _=>mpA) 0 (r.maps.take k)):=⟨_,rfl⟩;rw[←hp];have HN:Hid (textA ((fun _=>mpA) k x)=textA (nthL (fun k y=>(false,[[114,111,117,116,101,45,109,97,112],x.name,nthW k,yesW y.permit]) :: clAs y) 0 x.clauses)):=hid (rfl);have HMp:Hid (p.length+(textA (nthL (fun k y=>(false,[[114,111,117,116,101,45,109,97,112],x.name,nthW k,yesW y.permit]) :: clAs y) 0 x.clauses)).length≤140737488355328):=hid (by rw[←HN.out,hp,List.length_append];have h1:=HM.out;have h2:=HP.out;simp only[List.length_append]at h1⊢;omega);obtain⟨tzx,htzx⟩:∃zz,zz=p++textA (nthL (fun k y=>(false,[[114,111,117,116,101,45,109,97,112],x.name,nthW k,yesW y.permit]) :: clAs y) 0 x.clauses):=⟨_,rfl⟩;have HTZx:Hid (tzx=q1++textA (nthL (fun _=>mpA) 0 (r.maps.take (k+1)))):=hid (by rw[ET.out,zAk,←List.append_assoc,←hp];exact htzx.trans (congrArg _ HN.out.symm));replace htzx:=hid htzx;clear HP HN hp ET;obtain⟨hat,hsx,hy⟩:=HX.out;replace hy:=hid hy;have HVI:=hid hat;have hni:x.clauses.length≤9223372036854775807:=by omega
   obtain⟨AI,cI,hvi,-,-⟩:=hat;have HVJ:Hid (SlV w B 7 Cl.C (.slice AI x.clauses.length cI) x.clauses):=hid (by have:=HVI.out;unfold RMap.at at this;rwa [hvi]at this);have HW:Hid (∀W,YA [(41,gy,cl)] w W→W.cell? ⟨gr,o+k*2,none⟩=some (.string (str x.name))∧W.cell? ⟨gr,o+k*2+1,none⟩=some (.slice AI x.clauses.length cI)):=hid fun W hW=>have q:=RK.out W hW;⟨q 0 _ rfl,(q 1 _ rfl).trans (congrArg some hvi)⟩
   clear HVI HX RK hvi r1;obtain⟨q0,q1⟩:=HW.out _ HR.out;go_wp2;go_loopg [3,9,10] x.clauses.length (fun gh sv ix _ wr=>∃j:Nat,j+gh=x.clauses.length∧ix=.int .i64 j∧sv=.string (str (p++textA (nthL (fun k y=>(false,[[114,111,117,116,101,45,109,97,112],x.name,nthW k,yesW y.permit]) :: clAs y) 0 (x.clauses.take j))))∧Hid (YA [(41,gy,cl)] w wr));case atStart=>exact⟨0,by omega,rfl,by rw[List.take_zero,nthL,zAz,List.append_nil]<;>rfl,HR⟩
   case round=>
    as_aux_lemma=>
    obtain⟨j,hk,rfl,rfl,HR⟩:=hrel;have cr:wr.cell? ⟨gy,4,none⟩=some (.slice (some ⟨gr,o,none⟩) r.maps.length cp1):=(HR.out.a.cell 4).trans HC.out.2.1;obtain⟨q0,q1⟩:=HW.out _ HR.out;by_cases hlt:j<x.clauses.length;case neg=>
     have hkz:¬((j:Int)<(x.clauses.length:Int)):=by omega
     rw[List.take_of_length_le (by omega)];go_wp2;go_roundg (r.maps.length - (k+1));case measure=>omega
     case rel=>
      refine⟨k+1,by omega,by go_num,?_,HR⟩;rw[←HTZx.out,htzx.out]
    have hkz:(j:Int)<(x.clauses.length:Int):=by omega
    obtain⟨gp,op,c', e',-,hgr,R0⟩:=SlV.elem (n:=7) (by decide) (fun _=>rfl) HVJ.out hlt;injection e' with e1 e2 e3
    subst e1 e3;have r1:=hid (zAf R0 (HR.out.b.mono hB.out) hgr);clear e2 R0;have HX:=hid (hy.out _ (List.getElem_mem hlt));have ET:=hid (zAy (fun k y=>(false,[[114,111,117,116,101,45,109,97,112],x.name,nthW k,yesW y.permit]) :: clAs y) x.clauses hlt);have HP:=hid (zBa (fun k y=>(false,[[114,111,117,116,101,45,109,97,112],x.name,nthW k,yesW y.permit]) :: clAs y) x.clauses hlt);generalize x.clauses[j]=y at HX ET HP r1;obtain⟨q,hp⟩:∃zz,zz=p++textA (nthL (fun k y=>(false,[[114,111,117,116,101,45,109,97,112],x.name,nthW k,yesW y.permit]) :: clAs y) 0 (x.clauses.take j)):=⟨_,rfl⟩;rw[←hp];have HN:Hid (textA ((fun k y=>(false,[[114,111,117,116,101,45,109,97,112],x.name,nthW k,yesW y.permit]) :: clAs y) j y)=(lnW (false,[[114,111,117,116,101,45,109,97,112],x.name,nthW j,yesW y.permit])++(textA (clA 0 y)++(textA (clA 1 y)++(textA (clA 2 y)++(textA (clA 3 y)++(textA (clA 4 y)++(textA (clA 5 y)++([]:List UInt8))))))))):=hid (by simp only[clAs,zDn,zAk,List.append_nil]);have HMq:Hid (q.length+((lnW (false,[[114,111,117,116,101,45,109,97,112],x.name,nthW j,yesW y.permit])++(textA (clA 0 y)++(textA (clA 1 y)++(textA (clA 2 y)++(textA (clA 3 y)++(textA (clA 4 y)++(textA (clA 5 y)++([]:List UInt8))))))))).length≤140737488355328):=hid (by rw[←HN.out,hp,List.length_append];have h1:=HMp.out;have h2:=HP.out;(try dsimp only at h1 h2⊢);omega);obtain⟨tzy,htzy⟩:∃zz,zz=q++(lnW (false,[[114,111,117,116,101,45,109,97,112],x.name,nthW j,yesW y.permit])++(textA (clA 0 y)++(textA (clA 1 y)++(textA (clA 2 y)++(textA (clA 3 y)++(textA (clA 4 y)++(textA (clA 5 y)++([]:List UInt8)))))))):=⟨_,rfl⟩;have HTZy:Hid (tzy=p++textA (nthL (fun k y=>(false,[[114,111,117,116,101,45,109,97,112],x.name,nthW k,yesW y.permit]) :: clAs y) 0 (x.clauses.take (j+1)))):=hid (by rw[ET.out,zAk,←List.append_assoc,←hp];exact htzy.trans (congrArg _ HN.out.symm));replace htzy:=hid htzy;clear HP HN hp ET;go_upto_region 24 with(first|(refine zAa rfl 95 _ rfl rfl r1.out Tryz.rowCl Tryz.sizeCl ?_)|(refine zAd rfl 95 _ _ rfl rfl rfl (HasC.new wr _ _) rfl Tryz.sizeCl (Cl.one y) ?_;intro w4 hz1 hz2))
    have H4:Hid (YA ((95,wr.heap.size,y.C) :: [(41,gy,cl)]) w w4):=hid (HR.out.new hz1 (zAi hz2));clear hz1 hz2 r1 HR cr q0 q1;generalize wr.heap.size=gz at H4⊢;have HQq:Hid (q++(lnW (false,[[114,111,117,116,101,45,109,97,112],x.name,nthW j,yesW y.permit])++(textA (clA 0 y)++(textA (clA 1 y)++(textA (clA 2 y)++(textA (clA 3 y)++(textA (clA 4 y)++(textA (clA 5 y)++([]:List UInt8))))))))=tzy):=hid htzy.out.symm;clear htzy;have hry:=HX.out;obtain⟨k1,k2,k3,k4,k5⟩:=cl_ok hry;clear hry;have hja:j≤100000:=by omega
    obtain⟨w1,w2⟩:=place_run j hja;go_upto_region 24 with fail
    try simp only[Act.put]
    go_cut [3] (fun v wx=>v=.string (str (q++lnW (false,[[114,111,117,116,101,45,109,97,112],x.name,nthW j,yesW y.permit])))∧YA ((95,gz,y.C) :: [(41,gy,cl)]) w wx)
    case first=>
     as_aux_lemma=>
     have hj:q.length+(lnW (false,[[114,111,117,116,101,45,109,97,112],x.name,nthW j,yesW y.permit])).length≤140737488355328:=(by have:=HMq.out;simp only[List.length_append]at this⊢;omega);have HX:Hid (∀W,YA ((95,gz,y.C) :: [(41,gy,cl)]) w W→W.cell? ⟨gy,4,none⟩=some (.slice (some ⟨gr,o,none⟩) r.maps.length cp1)∧W.cell? ⟨gr,o+k*2,none⟩=some (.string (str x.name))∧W.cell? ⟨gz,0,none⟩=some (.bool y.permit)):=hid fun W hW=>⟨(hW.pop.a.cell 4).trans HC.out.2.1,(HW.out W hW.pop).1,hW.a.cell 0⟩
     refine zAo (fun W=>YA ((95,gz,y.C) :: [(41,gy,cl)]) w W) (by kernel_rfl) (by kernel_rfl) H4.out.drew ?_
     repeat
      (first
       |(refine zDy rfl rfl rfl rfl ?_ ?_;(· (simp[lnW,joinW]at hj⊢;omega)))
       |(refine zBd (v:=?_) ?_ ?_ ?_;rotate_left;(· rfl);(· (intro W hW;obtain⟨cr,q0,c0⟩:=HX.out W hW;go_simp<;>rfl)))
       |(refine zAm ?_ ?_ (fun W hW=>(zJd j hja W).mono fun e w' ⟨he,hw⟩=>⟨he,hw ▸ hW⟩) ?_;(· rfl);(· (intro W hW;go_simp<;>rfl)))
       |(refine zAm ?_ ?_ (fun W hW=>(zIb y.permit W).mono fun e w' ⟨he,hw⟩=>⟨he,hw ▸ hW⟩) ?_;(· rfl);(· (intro W hW;go_simp<;>rfl))))
      simp only[Act.put,List.setIfInBounds_toArray,List.set_cons_zero,List.set_cons_succ]
     refine zBo (fun wq hS=>?_);have HS:=hid hS;clear hS HX;go_wp2;go_meet;exact⟨by simp[lnW,joinW],HS.out⟩
    case rest=>
    clear H4;obtain⟨rfl,hcut⟩:=hcut;have H:=hid hcut;clear hcut;obtain⟨q1y,hp⟩:∃zz,zz=q++lnW (false,[[114,111,117,116,101,45,109,97,112],x.name,nthW j,yesW y.permit]):=⟨_,rfl⟩;rw[←hp];have HM2:Hid (q1y.length+((textA (clA 0 y)++(textA (clA 1 y)++(textA (clA 2 y)++(textA (clA 3 y)++(textA (clA 4 y)++(textA (clA 5 y)++([]:List UInt8)))))))).length≤140737488355328):=hid (by have:=HMq.out;rw[hp];simp only[List.length_append]at this⊢;omega);have HQ2:Hid (q1y++(textA (clA 0 y)++(textA (clA 1 y)++(textA (clA 2 y)++(textA (clA 3 y)++(textA (clA 4 y)++(textA (clA 5 y)++([]:List UInt8)))))))=tzy):=hid (by rw[hp];exact(List.append_assoc _ _ _).trans HQq.out);clear hp HMq HQq;have HM:=HM2;have HQ:=HQ2;clear HM2 HQ2;have c1:wc.cell? ⟨gz,1,none⟩=some (.string (str y.list)):=H.out.a.cell 1;go_upto_if 143 with fail
    go_cut [3] (fun v wx=>v=.string (str (q1y++textA (clA 0 y)))∧YA ((95,gz,y.C) :: [(41,gy,cl)]) w wx)
    case first=>
     as_aux_lemma=>
     cases hc:(!y.list.isEmpty)with
     |true=>
      have E:textA (clA 0 y)=lnW (true,[[109,97,116,99,104],[108,105,115,116],y.list]):=zAw hc;have hj:q1y.length+(lnW (true,[[109,97,116,99,104],[108,105,115,116],y.list])).length≤140737488355328:=(by rw[←E];have:=HM.out;simp only[List.length_append]at this⊢;omega);have hs:=zCm hc;rw[hs];refine wp_cond_true rfl ?_;go_wp2_with (refine zAh rfl rfl rfl rfl (by simp[lnW,joinW]at hj⊢;omega) ?_);go_meet;exact⟨by rw[E];simp[lnW,joinW],H.out⟩
     |false=>
      have hs:=zCg hc;rw[hs];refine wp_cond_false rfl ?_;go_wp2;go_meet;exact⟨by rw[show textA (clA 0 y)=[]from zAn hc,List.append_nil],H.out⟩
    case rest=>
    clear H c1;obtain⟨rfl,hcut⟩:=hcut;have H:=hid hcut;clear hcut;obtain⟨q2y,hp⟩:∃zz,zz=q1y++textA (clA 0 y):=⟨_,rfl⟩;rw[←hp];have HM2:Hid (q2y.length+((textA (clA 1 y)++(textA (clA 2 y)++(textA (clA 3 y)++(textA (clA 4 y)++(textA (clA 5 y)++([]:List UInt8))))))).length≤140737488355328):=hid (by have:=HM.out;rw[hp];simp only[List.length_append]at this⊢;omega);have HQ2:Hid (q2y++(textA (clA 1 y)++(textA (clA 2 y)++(textA (clA 3 y)++(textA (clA 4 y)++(textA (clA 5 y)++([]:List UInt8))))))=tzy):=hid (by rw[hp];exact(List.append_assoc _ _ _).trans HQ.out);clear hp HM HQ;have HM:=HM2;have HQ:=HQ2;clear HM2 HQ2;have c2:wc.cell? ⟨gz,2,none⟩=some (.int .i64 y.tag):=H.out.a.cell 2;go_upto_if 152 with fail
    go_cut [3] (fun v wx=>v=.string (str (q2y++textA (clA 1 y)))∧YA ((95,gz,y.C) :: [(41,gy,cl)]) w wx)
    case first=>
     as_aux_lemma=>
     cases hc:(!(y.tag == -1))with
     |true=>
      have E:textA (clA 1 y)=lnW (true,[[109,97,116,99,104],[116,97,103],decI y.tag]):=zAw hc;have hj:q2y.length+(lnW (true,[[109,97,116,99,104],[116,97,103],decI y.tag])).length≤140737488355328:=(by rw[←E];have:=HM.out;simp only[List.length_append]at this⊢;omega);have hs:(y.tag != -1)=true:=hc;rw[hs];refine wp_cond_true rfl ?_;go_wp2_with (refine zAh rfl rfl rfl rfl (by simp[lnW,joinW]at hj⊢;omega) ?_);refine(zBm y.tag _ (by have:=m1_ne hc;omega) (by omega)).mono ?_;rintro e w1 ⟨rfl,rfl⟩;go_wp2_with (refine zAh rfl rfl rfl rfl (by simp[lnW,joinW]at hj⊢;omega) ?_);go_meet;exact⟨by rw[E];simp[lnW,joinW],H.out⟩
     |false=>
      have hs:(y.tag != -1)=false:=hc;rw[hs];refine wp_cond_false rfl ?_;go_wp2;go_meet;exact⟨by rw[show textA (clA 1 y)=[]from zAn hc,List.append_nil],H.out⟩
    case rest=>
    clear H c2;obtain⟨rfl,hcut⟩:=hcut;have H:=hid hcut;clear hcut;obtain⟨q3y,hp⟩:∃zz,zz=q2y++textA (clA 1 y):=⟨_,rfl⟩;rw[←hp];have HM2:Hid (q3y.length+((textA (clA 2 y)++(textA (clA 3 y)++(textA (clA 4 y)++(textA (clA 5 y)++([]:List UInt8)))))).length≤140737488355328):=hid (by have:=HM.out;rw[hp];simp only[List.length_append]at this⊢;omega);have HQ2:Hid (q3y++(textA (clA 2 y)++(textA (clA 3 y)++(textA (clA 4 y)++(textA (clA 5 y)++([]:List UInt8)))))=tzy):=hid (by rw[hp];exact(List.append_assoc _ _ _).trans HQ.out);clear hp HM HQ;have HM:=HM2;have HQ:=HQ2;clear HM2 HQ2;have c3:wc.cell? ⟨gz,3,none⟩=some (.int .i64 y.setM):=H.out.a.cell 3;go_upto_if 162 with fail
    go_cut [3] (fun v wx=>v=.string (str (q3y++textA (clA 2 y)))∧YA ((95,gz,y.C) :: [(41,gy,cl)]) w wx)
    case first=>
     as_aux_lemma=>
     cases hc:(!(y.setM == -1))with
     |true=>
      have E:textA (clA 2 y)=lnW (true,[[115,101,116],[109,101,116,114,105,99],decI y.setM]):=zAw hc;have hj:q3y.length+(lnW (true,[[115,101,116],[109,101,116,114,105,99],decI y.setM])).length≤140737488355328:=(by rw[←E];have:=HM.out;simp only[List.length_append]at this⊢;omega);have hs:(y.setM != -1)=true:=hc;rw[hs];refine wp_cond_true rfl ?_;go_wp2_with (refine zAh rfl rfl rfl rfl (by simp[lnW,joinW]at hj⊢;omega) ?_);refine(zBm y.setM _ (by have:=m1_ne hc;omega) (by omega)).mono ?_;rintro e w1 ⟨rfl,rfl⟩;go_wp2_with (refine zAh rfl rfl rfl rfl (by simp[lnW,joinW]at hj⊢;omega) ?_);go_meet;exact⟨by rw[E];simp[lnW,joinW],H.out⟩
     |false=>
      have hs:(y.setM != -1)=false:=hc;rw[hs];refine wp_cond_false rfl ?_;go_wp2;go_meet;exact⟨by rw[show textA (clA 2 y)=[]from zAn hc,List.append_nil],H.out⟩
    case rest=>
    clear H c3;obtain⟨rfl,hcut⟩:=hcut;have H:=hid hcut;clear hcut;obtain⟨q4y,hp⟩:∃zz,zz=q3y++textA (clA 2 y):=⟨_,rfl⟩;rw[←hp];have HM2:Hid (q4y.length+((textA (clA 3 y)++(textA (clA 4 y)++(textA (clA 5 y)++([]:List UInt8))))).length≤140737488355328):=hid (by have:=HM.out;rw[hp];simp only[List.length_append]at this⊢;omega);have HQ2:Hid (q4y++(textA (clA 3 y)++(textA (clA 4 y)++(textA (clA 5 y)++([]:List UInt8))))=tzy):=hid (by rw[hp];exact(List.append_assoc _ _ _).trans HQ.out);clear hp HM HQ;have HM:=HM2;have HQ:=HQ2;clear HM2 HQ2;have c4:wc.cell? ⟨gz,4,none⟩=some (.int .i64 y.setT):=H.out.a.cell 4;go_upto_if 172 with fail
    go_cut [3] (fun v wx=>v=.string (str (q4y++textA (clA 3 y)))∧YA ((95,gz,y.C) :: [(41,gy,cl)]) w wx)
    case first=>
     as_aux_lemma=>
     cases hc:(!(y.setT == -1))with
     |true=>
      have E:textA (clA 3 y)=lnW (true,[[115,101,116],[116,97,103],decI y.setT]):=zAw hc;have hj:q4y.length+(lnW (true,[[115,101,116],[116,97,103],decI y.setT])).length≤140737488355328:=(by rw[←E];have:=HM.out;simp only[List.length_append]at this⊢;omega);have hs:(y.setT != -1)=true:=hc;rw[hs];refine wp_cond_true rfl ?_;go_wp2_with (refine zAh rfl rfl rfl rfl (by simp[lnW,joinW]at hj⊢;omega) ?_);refine(zBm y.setT _ (by have:=m1_ne hc;omega) (by omega)).mono ?_;rintro e w1 ⟨rfl,rfl⟩;go_wp2_with (refine zAh rfl rfl rfl rfl (by simp[lnW,joinW]at hj⊢;omega) ?_);go_meet;exact⟨by rw[E];simp[lnW,joinW],H.out⟩
     |false=>
      have hs:(y.setT != -1)=false:=hc;rw[hs];refine wp_cond_false rfl ?_;go_wp2;go_meet;exact⟨by rw[show textA (clA 3 y)=[]from zAn hc,List.append_nil],H.out⟩
    case rest=>
    clear H c4;obtain⟨rfl,hcut⟩:=hcut;have H:=hid hcut;clear hcut;obtain⟨q5y,hp⟩:∃zz,zz=q4y++textA (clA 3 y):=⟨_,rfl⟩;rw[←hp];have HM2:Hid (q5y.length+((textA (clA 4 y)++(textA (clA 5 y)++([]:List UInt8)))).length≤140737488355328):=hid (by have:=HM.out;rw[hp];simp only[List.length_append]at this⊢;omega);have HQ2:Hid (q5y++(textA (clA 4 y)++(textA (clA 5 y)++([]:List UInt8)))=tzy):=hid (by rw[hp];exact(List.append_assoc _ _ _).trans HQ.out);clear hp HM HQ;have HM:=HM2;have HQ:=HQ2;clear HM2 HQ2;have c5:wc.cell? ⟨gz,5,none⟩=some (.int .i64 y.setP):=H.out.a.cell 5;go_upto_if 182 with fail
    go_cut [3] (fun v wx=>v=.string (str (q5y++textA (clA 4 y)))∧YA ((95,gz,y.C) :: [(41,gy,cl)]) w wx)
    case first=>
     as_aux_lemma=>
     cases hc:(!(y.setP == -1))with
     |true=>
      have E:textA (clA 4 y)=lnW (true,[[115,101,116],[112,114,101,102,101,114,101,110,99,101],decI y.setP]):=zAw hc;have hj:q5y.length+(lnW (true,[[115,101,116],[112,114,101,102,101,114,101,110,99,101],decI y.setP])).length≤140737488355328:=(by rw[←E];have:=HM.out;simp only[List.length_append]at this⊢;omega);have hs:(y.setP != -1)=true:=hc;rw[hs];refine wp_cond_true rfl ?_;go_wp2_with (refine zAh rfl rfl rfl rfl (by simp[lnW,joinW]at hj⊢;omega) ?_);refine(zBm y.setP _ (by have:=m1_ne hc;omega) (by omega)).mono ?_;rintro e w1 ⟨rfl,rfl⟩;go_wp2_with (refine zAh rfl rfl rfl rfl (by simp[lnW,joinW]at hj⊢;omega) ?_);go_meet;exact⟨by rw[E];simp[lnW,joinW],H.out⟩
     |false=>
      have hs:(y.setP != -1)=false:=hc;rw[hs];refine wp_cond_false rfl ?_;go_wp2;go_meet;exact⟨by rw[show textA (clA 4 y)=[]from zAn hc,List.append_nil],H.out⟩
    case rest=>
    clear H c5;obtain⟨rfl,hcut⟩:=hcut;have H:=hid hcut;clear hcut;obtain⟨q6y,hp⟩:∃zz,zz=q5y++textA (clA 4 y):=⟨_,rfl⟩;rw[←hp];have HM2:Hid (q6y.length+((textA (clA 5 y)++([]:List UInt8))).length≤140737488355328):=hid (by have:=HM.out;rw[hp];simp only[List.length_append]at this⊢;omega);have HQ2:Hid (q6y++(textA (clA 5 y)++([]:List UInt8))=tzy):=hid (by rw[hp];exact(List.append_assoc _ _ _).trans HQ.out);clear hp HM HQ;have HM:=HM2;have HQ:=HQ2;clear HM2 HQ2;have c6:wc.cell? ⟨gz,6,none⟩=some (.int .i64 y.prep):=H.out.a.cell 6;go_upto_if 192 with fail
    cases hc:(!(y.prep==0))with
    |true=>
     have E:textA (clA 5 y)=lnW (true,[[112,114,101,112,101,110,100],decI y.prep]):=zAw hc;have hj:q6y.length+(lnW (true,[[112,114,101,112,101,110,100],decI y.prep])).length≤140737488355328:=(by rw[←E];have:=HM.out;simp only[List.length_append]at this⊢;omega);have hs:(y.prep != 0)=true:=hc;rw[hs];refine wp_cond_true rfl ?_;go_wp2_with (refine zAh rfl rfl rfl rfl (by simp[lnW,joinW]at hj⊢;omega) ?_);refine(zBm y.prep _ (by have:=ne_of hc;omega) (by omega)).mono ?_;rintro e w1 ⟨rfl,rfl⟩;go_wp2_with (refine zAh rfl rfl rfl rfl (by simp[lnW,joinW]at hj⊢;omega) ?_);have HZ:Hid (q6y++textA (clA 5 y)=tzy):=hid (by have:=HQ.out;rwa [List.append_nil]at this);go_roundg (x.clauses.length - (j+1));case measure=>omega
     case rel=>
      refine⟨j+1,by omega,by go_num,?_,hid (H.out.pop)⟩;rw[←HTZy.out,←HZ.out,E];simp[lnW,joinW]
    |false=>
     have hs:(y.prep != 0)=false:=hc;rw[hs];refine wp_cond_false rfl ?_;have E:textA (clA 5 y)=[]:=zAn hc;go_wp2_with fail;have HZ:Hid (q6y++textA (clA 5 y)=tzy):=hid (by have:=HQ.out;rwa [List.append_nil]at this);go_roundg (x.clauses.length - (j+1));case measure=>omega
     case rel=>
      refine⟨j+1,by omega,by go_num,?_,hid (H.out.pop)⟩;rw[←HTZy.out,←HZ.out,E,List.append_nil]
 case rest=>
 clear H;obtain⟨rfl,hcut⟩:=hcut;have H:=hid hcut;clear hcut;obtain⟨q2,hp⟩:∃zz,zz=q1++textA (nthL (fun _=>mpA) 0 r.maps):=⟨_,rfl⟩;rw[←hp];have HM2:Hid (q2.length+((textA (nthL (fun _=>acA) 0 r.acls)++([]:List UInt8))).length≤140737488355328):=hid (by have:=HM.out;rw[hp];simp only[List.length_append]at this⊢;omega);have HQ2:Hid (q2++(textA (nthL (fun _=>acA) 0 r.acls)++([]:List UInt8))=textA (nthL (fun _=>plA) 0 r.lists)++(textA (nthL (fun _=>mpA) 0 r.maps)++(textA (nthL (fun _=>acA) 0 r.acls)))):=hid (by rw[hp];exact(List.append_assoc _ _ _).trans HQ.out);clear hp HM HQ;have HM:=HM2;have HQ:=HQ2;clear HM2 HQ2;go_wp2;go_loopg [3,11,12,13] r.acls.length (fun gh sv ix _ _ wr=>∃k:Nat,k+gh=r.acls.length∧ix=.int .i64 k∧sv=.string (str (q2++textA (nthL (fun _=>acA) 0 (r.acls.take k))))∧Hid (YA [(41,gy,cl)] w wr));case atStart=>exact⟨0,by omega,rfl,by rw[List.take_zero,nthL,zAz,List.append_nil]<;>rfl,H⟩
 case round=>
  as_aux_lemma=>
  obtain⟨k,hk,rfl,rfl,HR⟩:=hrel;have cr:wr.cell? ⟨gy,5,none⟩=some (.slice A2 r.acls.length cp2):=(HR.out.a.cell 5).trans HC.out.2.2;by_cases hlt:k<r.acls.length;case neg=>
   have hkz:¬((k:Int)<(r.acls.length:Int)):=by omega
   rw[List.take_of_length_le (by omega)];go_wp2_with fail;have HZ:=HQ.out;rw[List.append_nil]at HZ;go_ret;exact⟨by rw[HZ];rfl,HR.out.b⟩
  have hkz:(k:Int)<(r.acls.length:Int):=by omega
  obtain⟨gr,o,c', e',-,hgr,R0⟩:=SlV.elem (n:=2) (by decide) (fun _=>rfl) HV2.out hlt;injection e' with e1 e2 e3
  subst e1 e3;have r1:=hid (zAf R0 (HR.out.b.mono hB.out) hgr);have RK:Hid (∀W,YA [(41,gy,cl)] w W→_):=hid fun W hW=>zAf R0 (hW.b.mono hB.out) hgr
  clear e2 R0;have HX:=hid (hx2.out _ (List.getElem_mem hlt));have ET:=hid (zAy (fun _=>acA) r.acls hlt);have HP:=hid (zBa (fun _=>acA) r.acls hlt);generalize r.acls[k]=x at HX ET HP r1 RK;obtain⟨p,hp⟩:∃zz,zz=q2++textA (nthL (fun _=>acA) 0 (r.acls.take k)):=⟨_,rfl⟩;rw[←hp];have HN:Hid (textA ((fun _=>acA) k x)=textA (nthL (fun k y=>[ruA x.name k y]) 0 x.rules)):=hid (rfl);have HMp:Hid (p.length+(textA (nthL (fun k y=>[ruA x.name k y]) 0 x.rules)).length≤140737488355328):=hid (by rw[←HN.out,hp,List.length_append];have h1:=HM.out;have h2:=HP.out;simp only[List.length_append]at h1⊢;omega);obtain⟨tzx,htzx⟩:∃zz,zz=p++textA (nthL (fun k y=>[ruA x.name k y]) 0 x.rules):=⟨_,rfl⟩;have HTZx:Hid (tzx=q2++textA (nthL (fun _=>acA) 0 (r.acls.take (k+1)))):=hid (by rw[ET.out,zAk,←List.append_assoc,←hp];exact htzx.trans (congrArg _ HN.out.symm));replace htzx:=hid htzx;clear HP HN hp ET;obtain⟨hat,hsx,hy⟩:=HX.out;replace hy:=hid hy;have HVI:=hid hat;have hni:x.rules.length≤9223372036854775807:=by omega
  obtain⟨AI,cI,hvi,-,-⟩:=hat;have HVJ:Hid (SlV w B 10 Ru.C (.slice AI x.rules.length cI) x.rules):=hid (by have:=HVI.out;unfold AList.at at this;rwa [hvi]at this);have HW:Hid (∀W,YA [(41,gy,cl)] w W→W.cell? ⟨gr,o+k*2,none⟩=some (.string (str x.name))∧W.cell? ⟨gr,o+k*2+1,none⟩=some (.slice AI x.rules.length cI)):=hid fun W hW=>have q:=RK.out W hW;⟨q 0 _ rfl,(q 1 _ rfl).trans (congrArg some hvi)⟩
  clear HVI HX RK hvi r1;obtain⟨q0,q1⟩:=HW.out _ HR.out;go_wp2;go_loopg [3,12,13] x.rules.length (fun gh sv ix _ wr=>∃j:Nat,j+gh=x.rules.length∧ix=.int .i64 j∧sv=.string (str (p++textA (nthL (fun k y=>[ruA x.name k y]) 0 (x.rules.take j))))∧Hid (YA [(41,gy,cl)] w wr));case atStart=>exact⟨0,by omega,rfl,by rw[List.take_zero,nthL,zAz,List.append_nil]<;>rfl,HR⟩
  case round=>
   as_aux_lemma=>
   obtain⟨j,hk,rfl,rfl,HR⟩:=hrel;have cr:wr.cell? ⟨gy,5,none⟩=some (.slice (some ⟨gr,o,none⟩) r.acls.length cp2):=(HR.out.a.cell 5).trans HC.out.2.2;obtain⟨q0,q1⟩:=HW.out _ HR.out;by_cases hlt:j<x.rules.length;case neg=>
    have hkz:¬((j:Int)<(x.rules.length:Int)):=by omega
    rw[List.take_of_length_le (by omega)];go_wp2;go_roundg (r.acls.length - (k+1));case measure=>omega
    case rel=>
     refine⟨k+1,by omega,by go_num,?_,HR⟩;rw[←HTZx.out,htzx.out]
   have hkz:(j:Int)<(x.rules.length:Int):=by omega
   obtain⟨gp,op,c', e',-,hgr,R0⟩:=SlV.elem (n:=10) (by decide) (fun _=>rfl) HVJ.out hlt;injection e' with e1 e2 e3
   subst e1 e3;have r1:=hid (zAf R0 (HR.out.b.mono hB.out) hgr);clear e2 R0;have HX:=hid (hy.out _ (List.getElem_mem hlt));have ET:=hid (zAy (fun k y=>[ruA x.name k y]) x.rules hlt);have HP:=hid (zBa (fun k y=>[ruA x.name k y]) x.rules hlt);generalize x.rules[j]=y at HX ET HP r1;obtain⟨q,hp⟩:∃zz,zz=p++textA (nthL (fun k y=>[ruA x.name k y]) 0 (x.rules.take j)):=⟨_,rfl⟩;rw[←hp];have HN:Hid (textA ((fun k y=>[ruA x.name k y]) j y)=(joinW [[97,99,99,101,115,115,45,108,105,115,116],x.name,nthW j,yesW y.permit,protA y.proto,wildT y.sa y.sm,wildT y.da y.dm]++(tlW (zBu [102,114,111,109] y.slo y.shi)++(tlW (zBu [116,111] y.dlo y.dhi)++([10]++([]:List UInt8)))))):=hid (by rw[zAx,ruA,zJm,zHt];simp only[List.append_assoc,List.append_nil,List.nil_append,Bool.false_eq_true,if_false]);have HMq:Hid (q.length+((joinW [[97,99,99,101,115,115,45,108,105,115,116],x.name,nthW j,yesW y.permit,protA y.proto,wildT y.sa y.sm,wildT y.da y.dm]++(tlW (zBu [102,114,111,109] y.slo y.shi)++(tlW (zBu [116,111] y.dlo y.dhi)++([10]++([]:List UInt8)))))).length≤140737488355328):=hid (by rw[←HN.out,hp,List.length_append];have h1:=HMp.out;have h2:=HP.out;(try dsimp only at h1 h2⊢);omega);obtain⟨tzy,htzy⟩:∃zz,zz=q++(joinW [[97,99,99,101,115,115,45,108,105,115,116],x.name,nthW j,yesW y.permit,protA y.proto,wildT y.sa y.sm,wildT y.da y.dm]++(tlW (zBu [102,114,111,109] y.slo y.shi)++(tlW (zBu [116,111] y.dlo y.dhi)++([10]++([]:List UInt8))))):=⟨_,rfl⟩;have HTZy:Hid (tzy=p++textA (nthL (fun k y=>[ruA x.name k y]) 0 (x.rules.take (j+1)))):=hid (by rw[ET.out,zAk,←List.append_assoc,←hp];exact htzy.trans (congrArg _ HN.out.symm));replace htzy:=hid htzy;clear HP HN hp ET;go_upto_region 44 with(first|(refine zAa rfl 103 _ rfl rfl r1.out Tryz.rowRu Tryz.sizeRu ?_)|(refine zAd rfl 103 _ _ rfl rfl rfl (HasC.new wr _ _) rfl Tryz.sizeRu (Ru.one y) ?_;intro w4 hz1 hz2))
   have H4:Hid (YA ((103,wr.heap.size,y.C) :: [(41,gy,cl)]) w w4):=hid (HR.out.new hz1 (zAi hz2));clear hz1 hz2 r1 HR cr q0 q1;generalize wr.heap.size=gz at H4⊢;have HQq:Hid (q++(joinW [[97,99,99,101,115,115,45,108,105,115,116],x.name,nthW j,yesW y.permit,protA y.proto,wildT y.sa y.sm,wildT y.da y.dm]++(tlW (zBu [102,114,111,109] y.slo y.shi)++(tlW (zBu [116,111] y.dlo y.dhi)++([10]++([]:List UInt8)))))=tzy):=hid htzy.out.symm;clear htzy;obtain⟨hry,hfy⟩:=HX.out;obtain⟨k1,-,-,k4,k5⟩:=ru_ok hry;obtain⟨f1,f2,f3,f4⟩:=hfy;clear hry;have hja:j≤100000:=by omega
   obtain⟨w1,w2⟩:=place_run j hja;go_upto_region 44 with fail
   try simp only[Act.put]
   go_cut [3] (fun v wx=>v=.string (str (q++joinW [[97,99,99,101,115,115,45,108,105,115,116],x.name,nthW j,yesW y.permit,protA y.proto,wildT y.sa y.sm,wildT y.da y.dm]))∧YA ((103,gz,y.C) :: [(41,gy,cl)]) w wx)
   case first=>
    as_aux_lemma=>
    have hj:q.length+(joinW [[97,99,99,101,115,115,45,108,105,115,116],x.name,nthW j,yesW y.permit,protA y.proto,wildT y.sa y.sm,wildT y.da y.dm]).length≤140737488355328:=(by have:=HMq.out;simp only[List.length_append]at this⊢;omega);have HX:Hid (∀W,YA ((103,gz,y.C) :: [(41,gy,cl)]) w W→W.cell? ⟨gy,5,none⟩=some (.slice (some ⟨gr,o,none⟩) r.acls.length cp2)∧W.cell? ⟨gr,o+k*2,none⟩=some (.string (str x.name))∧W.cell? ⟨gz,0,none⟩=some (.bool y.permit)∧W.cell? ⟨gz,1,none⟩=some (.int .i64 y.proto)∧W.cell? ⟨gz,2,none⟩=some (.int .u32 (y.sa:Int))∧W.cell? ⟨gz,3,none⟩=some (.int .u32 (y.sm:Int))∧W.cell? ⟨gz,4,none⟩=some (.int .u32 (y.da:Int))∧W.cell? ⟨gz,5,none⟩=some (.int .u32 (y.dm:Int))):=hid fun W hW=>⟨(hW.pop.a.cell 5).trans HC.out.2.2,(HW.out W hW.pop).1,hW.a.cell 0,hW.a.cell 1,hW.a.cell 2,hW.a.cell 3,hW.a.cell 4,hW.a.cell 5⟩
    refine zAo (fun W=>YA ((103,gz,y.C) :: [(41,gy,cl)]) w W) (by kernel_rfl) (by kernel_rfl) H4.out.drew ?_
    repeat
     (first
      |(refine zDy rfl rfl rfl rfl ?_ ?_;(· (simp[joinW]at hj⊢;omega)))
      |(refine zBd (v:=?_) ?_ ?_ ?_;rotate_left;(· rfl);(· (intro W hW;obtain⟨cr,q0,c0,c1,c2,c3,c4,c5⟩:=HX.out W hW;go_simp<;>rfl)))
      |(refine zAm ?_ ?_ (fun W hW=>(zJd j hja W).mono fun e w' ⟨he,hw⟩=>⟨he,hw ▸ hW⟩) ?_;(· rfl);(· (intro W hW;go_simp<;>rfl)))
      |(refine zAm ?_ ?_ (fun W hW=>(zIb y.permit W).mono fun e w' ⟨he,hw⟩=>⟨he,hw ▸ hW⟩) ?_;(· rfl);(· (intro W hW;go_simp<;>rfl)))
      |(refine zAm ?_ ?_ (fun W hW=>(rtransA_any y.proto W k1.1 k1.2).mono fun e w' ⟨he,hw⟩=>⟨he,hw ▸ hW⟩) ?_;(· rfl);(· (intro W hW;go_simp<;>rfl)))
      |(refine zAm ?_ ?_ (fun W hW=>hW.call (rpatA_any y.sa y.sm W f1 f2)) ?_;(· rfl);(· (intro W hW;go_simp<;>rfl)))
      |(refine zAm ?_ ?_ (fun W hW=>hW.call (rpatA_any y.da y.dm W f3 f4)) ?_;(· rfl);(· (intro W hW;go_simp<;>rfl))))
     simp only[Act.put,List.setIfInBounds_toArray,List.set_cons_zero,List.set_cons_succ]
    refine zBo (fun wq hS=>?_);have HS:=hid hS;clear hS HX;go_wp2;go_meet;exact⟨by simp[joinW],HS.out⟩
   case rest=>
   clear H4;obtain⟨rfl,hcut⟩:=hcut;have H:=hid hcut;clear hcut;obtain⟨q1y,hp⟩:∃zz,zz=q++joinW [[97,99,99,101,115,115,45,108,105,115,116],x.name,nthW j,yesW y.permit,protA y.proto,wildT y.sa y.sm,wildT y.da y.dm]:=⟨_,rfl⟩;rw[←hp];have HM2:Hid (q1y.length+((tlW (zBu [102,114,111,109] y.slo y.shi)++(tlW (zBu [116,111] y.dlo y.dhi)++([10]++([]:List UInt8))))).length≤140737488355328):=hid (by have:=HMq.out;rw[hp];simp only[List.length_append]at this⊢;omega);have HQ2:Hid (q1y++(tlW (zBu [102,114,111,109] y.slo y.shi)++(tlW (zBu [116,111] y.dlo y.dhi)++([10]++([]:List UInt8))))=tzy):=hid (by rw[hp];exact(List.append_assoc _ _ _).trans HQq.out);clear hp HMq HQq;have HM:=HM2;have HQ:=HQ2;clear HM2 HQ2;have c6:wc.cell? ⟨gz,6,none⟩=some (.int .i64 y.slo):=H.out.a.cell 6;have c7:wc.cell? ⟨gz,7,none⟩=some (.int .i64 y.shi):=H.out.a.cell 7;obtain⟨bb,hbb⟩:∃bb,bb=(y.slo==0&&y.shi==65535):=⟨_,rfl⟩;go_upto_region 45 with fail
   go_wp2_with fail;refine(rfull_any y.slo y.shi _).mono ?_;rintro e w1 ⟨rfl,hb⟩;have H0:=hid (H.out.below hb);clear hb H c6 c7;rw[←hbb];replace hbb:=hid hbb;have c6:w1.cell? ⟨gz,6,none⟩=some (.int .i64 y.slo):=H0.out.a.cell 6;have c7:w1.cell? ⟨gz,7,none⟩=some (.int .i64 y.shi):=H0.out.a.cell 7;go_upto_if 265 with fail
   go_cut [3] (fun v wx=>v=.string (str (q1y++tlW (zBu [102,114,111,109] y.slo y.shi)))∧YA ((103,gz,y.C) :: [(41,gy,cl)]) w wx)
   case first=>
    as_aux_lemma=>
    cases hc:(!bb)with
    |true=>
     have E:tlW (zBu [102,114,111,109] y.slo y.shi)=tlW [[102,114,111,109],portW y.slo y.shi]:=by rw[zBu,←hbb.out,hc];rfl
     have hj:q1y.length+(tlW [[102,114,111,109],portW y.slo y.shi]).length≤140737488355328:=(by rw[←E];have:=HM.out;simp only[List.length_append]at this⊢;omega);refine wp_cond_true rfl ?_;go_wp2_with (refine zAh rfl rfl rfl rfl (by simp[tlW]at hj⊢;omega) ?_);refine(rportT_any y.slo y.shi _ k4.1 k4.2.1 k4.2.2).mono ?_;rintro e w1 ⟨rfl,hb⟩;have H1:=hid (H0.out.below hb);clear hb;go_wp2_with (refine zAh rfl rfl rfl rfl (by simp[tlW]at hj⊢;omega) ?_);go_meet;exact⟨by rw[E];simp[tlW],H1.out⟩
    |false=>
     refine wp_cond_false rfl ?_;go_wp2;go_meet;exact⟨by rw[show tlW (zBu [102,114,111,109] y.slo y.shi)=[]from(by rw[zBu,←hbb.out,hc];rfl),List.append_nil],H0.out⟩
   case rest=>
   clear H0 c6 c7;obtain⟨rfl,hcut⟩:=hcut;have H:=hid hcut;clear hcut;obtain⟨q2y,hp⟩:∃zz,zz=q1y++tlW (zBu [102,114,111,109] y.slo y.shi):=⟨_,rfl⟩;rw[←hp];have HM2:Hid (q2y.length+((tlW (zBu [116,111] y.dlo y.dhi)++([10]++([]:List UInt8)))).length≤140737488355328):=hid (by have:=HM.out;rw[hp];simp only[List.length_append]at this⊢;omega);have HQ2:Hid (q2y++(tlW (zBu [116,111] y.dlo y.dhi)++([10]++([]:List UInt8)))=tzy):=hid (by rw[hp];exact(List.append_assoc _ _ _).trans HQ.out);clear hp HM HQ;have HM:=HM2;have HQ:=HQ2;clear HM2 HQ2;clear hbb;have c8:wc.cell? ⟨gz,8,none⟩=some (.int .i64 y.dlo):=H.out.a.cell 8;have c9:wc.cell? ⟨gz,9,none⟩=some (.int .i64 y.dhi):=H.out.a.cell 9;obtain⟨bb,hbb⟩:∃bb,bb=(y.dlo==0&&y.dhi==65535):=⟨_,rfl⟩;go_upto_region 47 with fail
   go_wp2_with fail;refine(rfull_any y.dlo y.dhi _).mono ?_;rintro e w1 ⟨rfl,hb⟩;have H0:=hid (H.out.below hb);clear hb H c8 c9;rw[←hbb];replace hbb:=hid hbb;have c8:w1.cell? ⟨gz,8,none⟩=some (.int .i64 y.dlo):=H0.out.a.cell 8;have c9:w1.cell? ⟨gz,9,none⟩=some (.int .i64 y.dhi):=H0.out.a.cell 9;go_upto_if 275 with fail
   go_cut [3] (fun v wx=>v=.string (str (q2y++tlW (zBu [116,111] y.dlo y.dhi)))∧YA ((103,gz,y.C) :: [(41,gy,cl)]) w wx)
   case first=>
    as_aux_lemma=>
    cases hc:(!bb)with
    |true=>
     have E:tlW (zBu [116,111] y.dlo y.dhi)=tlW [[116,111],portW y.dlo y.dhi]:=by rw[zBu,←hbb.out,hc];rfl
     have hj:q2y.length+(tlW [[116,111],portW y.dlo y.dhi]).length≤140737488355328:=(by rw[←E];have:=HM.out;simp only[List.length_append]at this⊢;omega);refine wp_cond_true rfl ?_;go_wp2_with (refine zAh rfl rfl rfl rfl (by simp[tlW]at hj⊢;omega) ?_);refine(rportT_any y.dlo y.dhi _ k5.1 k5.2.1 k5.2.2).mono ?_;rintro e w1 ⟨rfl,hb⟩;have H1:=hid (H0.out.below hb);clear hb;go_wp2_with (refine zAh rfl rfl rfl rfl (by simp[tlW]at hj⊢;omega) ?_);go_meet;exact⟨by rw[E];simp[tlW],H1.out⟩
    |false=>
     refine wp_cond_false rfl ?_;go_wp2;go_meet;exact⟨by rw[show tlW (zBu [116,111] y.dlo y.dhi)=[]from(by rw[zBu,←hbb.out,hc];rfl),List.append_nil],H0.out⟩
   case rest=>
   clear H0 c8 c9;obtain⟨rfl,hcut⟩:=hcut;have H:=hid hcut;clear hcut;obtain⟨q3y,hp⟩:∃zz,zz=q2y++tlW (zBu [116,111] y.dlo y.dhi):=⟨_,rfl⟩;rw[←hp];have HM2:Hid (q3y.length+(([10]++([]:List UInt8))).length≤140737488355328):=hid (by have:=HM.out;rw[hp];simp only[List.length_append]at this⊢;omega);have HQ2:Hid (q3y++([10]++([]:List UInt8))=tzy):=hid (by rw[hp];exact(List.append_assoc _ _ _).trans HQ.out);clear hp HM HQ;have HM:=HM2;have HQ:=HQ2;clear HM2 HQ2;clear hbb;have hj:q3y.length+([10]).length≤140737488355328:=(by have:=HM.out;simp only[List.length_append]at this⊢;omega);have HZ:Hid (q3y++[10]=tzy):=hid (by have:=HQ.out;rwa [List.append_nil]at this);go_wp2_with (refine zAh rfl rfl rfl rfl (by simp at hj⊢;omega) ?_);go_roundg (x.rules.length - (j+1));case measure=>omega
   case rel=>
    refine⟨j+1,by omega,by go_num,?_,hid (H.out.pop)⟩;rw[←HTZy.out,←HZ.out]
end Go.Proofs.YthcnojmldldpeaaGreatDoor
