/- The walk of the statement BetaDuplicate. Conditions: Go's own tables lie in memory (EnvA), the router lies in memory, addresses are numbers below 2^32. -/
import Derived.Test.YtdlgnhefpoalnaaGreatDoorHai
import Derived.Test.YtdlgnhefpoalnaaGreatDoorHap
import Derived.Test.YtdlgnhefpoalnaaGreatDoorHas
import Derived.Test.YtdlgnhefpoalnaaGreatDoorHat
set_option maxRecDepth 8000
namespace Go.Proofs.YtdlgnhefpoalnaaGreatDoor
open Lib (hid)
open Go.RowKit
theorem seq_more(la:Int)(n:Nat) :
  (∀(t:List Tk) (acc ns:List Nd) (r:List Tk),seqN la n true t acc=.ok (ns,r)→∀(m:Nat) (t2:List Tk),seqN la (n+m) true (t++t2) acc=.ok (ns,r++t2)) ∧
  (∀(t:List Tk) (acc ns:List Nd) (r:List Tk),seqN la n false t acc=.ok (ns,r)→∀(m:Nat) (t2:List Tk),∃g,m≤g∧seqN la (n+m) false (t++t2) acc=seqN la g false t2 ns) ∧
  (∀(a:Int) (t:List Tk) (ws:List (List UInt8)) (x:Nd) (r:List Tk),nodeN la n a t ws=.ok (x,r)→∀(m:Nat) (t2:List Tk),nodeN la (n+m) a (t++t2) ws=.ok (x,r++t2)):=by
 induction n with
 |zero=>exact⟨fun _ _ _ _ h=>by simp only[seqN,reduceCtorEq]at h,fun _ _ _ _ h=>by simp only[seqN,reduceCtorEq]at h,fun _ _ _ _ _ h=>by simp only[nodeN,reduceCtorEq]at h⟩
 |succ n ih=>
  obtain⟨i1,i2,i3⟩:=ih;refine⟨?_,?_,?_⟩
  ·intro t acc ns r h m t2
   rw[show n+1+m=n+m+1 by omega]
   match t,h with
   |[],h=>simp only[seqN,if_true,reduceCtorEq]at h
   |x :: t,h=>
    rw[List.cons_append];unfold seqN at h⊢;by_cases hc:(true&&x.2==[125])=true
    ·rw[if_pos hc]at h⊢;cases h;rfl
    ·rw[if_neg hc]at h⊢
     cases hn:nodeN la n x.1 (x :: t) []with
     |error e=>rw[hn]at h;cases h
     |ok u=>
      rw[hn]at h;have h4:=i3 _ _ _ u.1 u.2 hn m t2;rw[List.cons_append]at h4;rw[h4];exact i1 _ _ _ _ h m t2
  ·intro t acc ns r h m t2
   match t,h with
   |[],h=>
    simp only[seqN,Bool.false_eq_true,if_false,Except.ok.injEq,Prod.mk.injEq]at h;exact⟨n+1+m,by omega,by rw[h.1,List.nil_append]⟩
   |x :: t,h=>
    rw[show n+1+m=n+m+1 by omega,List.cons_append];unfold seqN at h;rw[if_neg (by rw[Bool.false_and];decide)]at h;cases hn:nodeN la n x.1 (x :: t) []with
    |error e=>rw[hn]at h;cases h
    |ok u=>
     rw[hn]at h;have h4:=i3 _ _ _ u.1 u.2 hn m t2;rw[List.cons_append]at h4;obtain⟨g,hg,h5⟩:=i2 _ _ _ _ h m t2;refine⟨g,hg,?_⟩;rw[seqN,if_neg (by rw[Bool.false_and];decide),h4];exact h5
  ·intro a t ws x r h m t2
   rw[show n+1+m=n+m+1 by omega]
   match t,h with
   |[],h=>simp only[nodeN,reduceCtorEq]at h
   |y :: t,h=>
    rw[List.cons_append];unfold nodeN at h⊢;by_cases h1:(!zJn y.2)=true
    ·rw[if_pos h1]at h⊢;exact i3 _ _ _ _ _ h m t2
    rw[if_neg h1]at h⊢;by_cases h2:(ws.isEmpty||y.2==[125])=true
    ·rw[if_pos h2]at h;cases h
    rw[if_neg h2]at h⊢;by_cases h3:(y.2==[59])=true
    ·rw[if_pos h3]at h⊢;cases h;rfl
    rw[if_neg h3]at h⊢;cases hn:seqN la n true t []with
    |error e=>rw[hn]at h;cases h
    |ok u=>
     rw[hn]at h;rw[i1 _ _ u.1 u.2 hn m t2];cases h;rfl
theorem zNt{f:Fm}{keys k1 ws:List (List UInt8)}{line:Int}{blk:Bool}{kids:List Nd}{r r1:Rt}(h:zBo f keys (.mk line ws blk kids) r=(r1,k1,none)):k1=(fmS f blk r ⟨ws,false⟩).1 :: keys:=by
 unfold zBo at h
 revert h
 match fmS f blk r ⟨ws,false⟩with
 |(key,inner,r', p)=>
  simp only;split
  ·intro h;cases h
  split
  ·intro h;cases h
  match inner with
  |none=>intro h;cases h;rfl
  |some g=>
   intro h;simp only[Prod.mk.injEq]at h;exact h.2.1.symm
theorem readN_twice{f:Fm}{K:List UInt8}{line:Int}{ws:List (List UInt8)}{blk:Bool}{kids:List Nd}(hK:K≠[])(hm:∀r,∃g p,(fmS f blk r ⟨ws,false⟩).1=K∧(fmS f blk r ⟨ws,false⟩).2.1=g∧(fmS f blk r ⟨ws,false⟩).2.2.2=p∧doneB p=true∧blk=g.isSome) :
  ∀(ns:List Nd) (keys:List (List UInt8)) (r r' : Rt),keys.contains K=true→readN f keys ns r=(r', none)→∃r'', readN f keys (ns++[.mk line ws blk kids]) r=(r'', some (line,4)):=by
 intro ns;induction ns with
 |nil=>
  intro keys r r' hk _;obtain⟨g,p,h1,h2,h3,h4,h5⟩:=hm r;rw[List.nil_append];unfold readN zBo
  revert h1 h2 h3
  match fmS f blk r ⟨ws,false⟩with
  |(key,inner,r1,q)=>
   simp only;rintro rfl rfl rfl;have e1:(key.isEmpty)=false:=by cases key with|nil=>exact absurd rfl hK|cons=>rfl
   rw[h4,h5,e1,hk];simp
 |cons n ns ih=>
  intro keys r r' hk h;obtain⟨l,w,b,ks⟩:=n;rw[List.cons_append];unfold readN at h⊢
  revert h
  cases ho:zBo f keys (.mk l w b ks) r with
  |mk r1 x=>
   obtain⟨k1,e⟩:=x;cases e with
   |some e=>intro h;cases h
   |none=>
    intro h;exact ih k1 r1 r' (by rw[zNt ho,List.contains_cons,hk,Bool.or_true]) h
theorem zMo:∀(a b:List Nd) (d:Nat),zEm d (a++b)=zEm d a++zEm d b
 |[],_,_=>rfl
 |n :: a,b,d=>by rw[List.cons_append,zEm,zEm,zMo a b d,List.append_assoc]
theorem zNm:∀(a b:List (List UInt8)) (n:Int),zBx n (a++b)=zBx n a++zBx (n+a.length) b
 |[],b,n=>by simp only[List.nil_append,zBx,List.length_nil];rw[show n+((0:Nat):Int)=n by omega]
 |x :: a,b,n=>by rw[List.cons_append,zBx,zBx,zNm a b (n+1),List.append_assoc,List.length_cons,show n+1+(a.length:Int)=n+((a.length+1:Nat):Int) by omega]
def sysT:List UInt8:=[115,121,115,116,101,109,32,123,10,125,10]
def sysW:List UInt8:=[115,121,115,116,101,109]
theorem dup_text{r:Rt}(h:zBl r=0)(hf:r.fit)(hl:(textL 0 (fmtN r)).length+11≤65536) :
  zIe zBl (textL 0 (fmtN r)++sysT)=(((zEm 0 (fmtN r)).length:Int)+1,4,rtN):=by
 obtain⟨h1,h2⟩:=zJq h hf;obtain⟨a1,a2,a3⟩:=zJk h1 0
 have hN:okL (fmtN r++[bln [sysW] []]):=okL_append.2 ⟨h1,⟨rfl,by simp,fun x hx=>(by
  rw[List.mem_singleton.1 hx]
  exact⟨⟨by decide,by decide⟩,by decide⟩),fun e=>(by cases e),trivial⟩,trivial⟩
 have hT:textL 0 (fmtN r)++sysT=textL 0 (fmtN r++[bln [sysW] []]):=by
  rw[zFw,zFw,zMo,List.flatMap_append];rfl
 obtain⟨b1,b2,b3⟩:=zJk hN 0
 have h6:zAu (textL 0 (fmtN r)++sysT)=0:=by
  rw[zAu,if_neg (by rw[List.length_append];have:sysT.length=11:=rfl;omega),hT,b2];rfl
 rw[zIe,if_pos h6,hT,b1,zCv,b1,zMo];rw[zCv,a1]at a3;generalize hA:zEm 0 (fmtN r)=A at *;have hS:zEm 0 [bln [sysW] []]=[[115,121,115,116,101,109,32,123],[125]]:=rfl;rw[hS,zNm,List.length_append];generalize hT1:zBx 1 A=T1 at *;have hT2:zBx (1+(A.length:Int)) [[115,121,115,116,101,109,32,123],[125]]=[(1+(A.length:Int),sysW),(1+(A.length:Int),[123]),(1+(A.length:Int)+1,[125])]:=rfl;rw[hT2];generalize (((A.length+[[115,121,115,116,101,109,32,123],([125]:List UInt8)].length:Nat)):Int)=la
 -- the nodes of the text
 have hc:=zOi (fmtN r);have ht:txts T1=flatL (fmtN r):=a3;have hlen:T1.length=(flatL (fmtN r)).length:=by have:=congrArg List.length ht;simpa only[txts,List.length_map] using this
 obtain⟨g,hg,e2⟩:=zLx (fmtN r) (2*T1.length+2) false [] [] h1 (by omega);obtain⟨j,rfl⟩:∃j,g=j+1:=⟨g - 1,by omega⟩
 have e3:seqN 0 (2*T1.length+2) false (zeroT (flatL (fmtN r))) []=.ok (fmtN r,[]):=by
  rw[List.append_nil]at e2;rw[e2];simp only[seqN,Bool.false_eq_true,if_false,List.nil_append]
 have e4:=(sameRead la 0 (2*T1.length+2)).1 false T1 (zeroT (flatL (fmtN r))) [] [] (by rw[ht];simp only[txts,zeroT,List.map_map];exact(List.map_id' _).symm) rfl;rw[e3]at e4
 obtain⟨ns,rs,e5,e6⟩:∃ns rs,seqN la (2*T1.length+2) false T1 []=.ok (ns,rs)∧bareL ns=bareL (fmtN r):=by
  revert e4
  cases seqN la (2*T1.length+2) false T1 []with
  |error e=>intro e4;simp only[zIp]at e4
  |ok a=>intro e4;exact⟨a.1,a.2,rfl,e4.1⟩
 obtain⟨m,hm,e7⟩:=(seq_more la (2*T1.length+2)).2.1 _ _ _ _ e5 6 [(1+(A.length:Int),sysW),(1+(A.length:Int),[123]),(1+(A.length:Int)+1,[125])];obtain⟨q,rfl⟩:∃q,m=q+6:=⟨m - 6,by omega⟩
 have e8:seqN la (q+6) false [(1+(A.length:Int),sysW),(1+(A.length:Int),[123]),(1+(A.length:Int)+1,[125])] ns=.ok (ns++[.mk (1+(A.length:Int)) [sysW] true []],[]):=by
  simp[seqN,nodeN,zJn,sysW]
 have e9:readN .top [] ns rtN=(r.plain,none):=by
  have:=zJx .top ns (fmtN r) [] rtN e6;rw[h2]at this
  revert this
  match readN .top [] ns rtN with
  |(r', none)=>intro this;simp only at this;obtain⟨rfl,_⟩:=this;rfl
  |(r', some e)=>intro this;simp only[errO,Option.map_some,Option.map_none]at this;cases this.2
 -- the first node is the system block
 obtain⟨l0,k0,ns', rfl⟩:∃l0 k0 ns', ns=.mk l0 [sysW] true k0 :: ns' := by
  obtain⟨k1,t1,hk⟩:∃k1 t1,fmtN r=.mk 0 [sysW] true k1 :: t1:=⟨_,_,rfl⟩;rw[hk]at e6
  match ns,e6 with
  |[],e=>simp only[bareL]at e;cases e
  |.mk l w b k :: t,e=>
   simp only[bareL,Nd.bare,List.cons.injEq,Nd.mk.injEq]at e;obtain⟨⟨-,rfl,rfl,-⟩,-⟩:=e;exact⟨l,k,t,rfl⟩
 have eD:∃r'', readN .top [] (.mk l0 [sysW] true k0 :: ns' ++ [.mk (1+(A.length:Int)) [sysW] true []]) rtN=(r'', some (1+(A.length:Int),4)):=by
  rw[List.cons_append];unfold readN at e9⊢
  revert e9
  cases ho:zBo .top [] (.mk l0 [sysW] true k0) rtN with
  |mk r1 x=>
   obtain⟨k1,e⟩:=x;cases e with
   |some e=>intro h;cases h
   |none=>
    intro h;refine readN_twice (K:=sysW) (by decide) (fun r=>⟨_,_,rfl,rfl,rfl,rfl,rfl⟩) ns' k1 r1 _ ?_ h;rw[zNt ho];rfl
 obtain⟨r'', eD⟩:=eD;unfold zGn;rw[show 2*(T1++[(1+(A.length:Int),sysW),(1+(A.length:Int),[123]),(1+(A.length:Int)+1,[125])]).length+2=2*T1.length+2+6 by rw[List.length_append];simp only[List.length_cons,List.length_nil];omega,e7,e8];simp only[eD];rw[show 1+(A.length:Int)=(A.length:Int)+1 by omega]
set_option maxHeartbeats 8000000 in
theorem zLq(r:Rt)(w:World)(B:Nat)(hB:B≤w.heap.size)(h:r.at w B)(hf:r.fit)(he:EnvA w.heap.size w):Calls Tryz.prog 8 #[.agg r.C] w fun e w' => e=.returned (.bool true)∧Below w.heap.size w w' := by
 have HSN:=hid (fun(W:World) (hW:Below w.heap.size w W)=>sane_gen zBl zJr (by kernel_rfl) W ((he.keep hW).up hW.size));have HP:=hid (fun(T:ByteArray) (W:World) (hW:Below w.heap.size w W)=>zJr T W ((he.keep hW).up hW.size));have HE:=hid (fun(W:World) (hW:Below w.heap.size w W)=>(he.keep hW).up hW.size);have HBB:=hid hB;have HR:=hid h;have HF:=hid hf;have H1:=hid (RB.start r w);clear he h hf hB;go_enter Tryz.func8,Tryz.ntmps8;go_wp2_with (refine zAa rfl 41 _ rfl rfl H1.out.h.range Tryz.rowRt Tryz.sizeRt ?_);refine(small_any r _ B (Nat.le_trans HBB.out H1.out.b.size) (HR.out.below (H1.out.b.mono HBB.out))).mono ?_;rintro e w2 ⟨he2,hb⟩;have H2:=hid (H1.out.keep hb);clear hb H1;rcases he2 with rfl|⟨rfl,hps⟩
 case inl=>
  go_wp2;go_ret;exact⟨rfl,H2.out.b⟩
 go_wp2_with (first|(refine zAa rfl 41 _ rfl rfl H2.out.h.range Tryz.rowRt Tryz.sizeRt ?_)|(refine zAh (by rfl) (zAa rfl 41 _ rfl rfl H2.out.h.range Tryz.rowRt Tryz.sizeRt ?_)));refine(rcheck_all r _ B (Nat.le_trans HBB.out H2.out.b.size) (HR.out.below (H2.out.b.mono HBB.out)) HF.out hps).mono ?_;rintro e w3 ⟨rfl,hb⟩;have H3:=hid (H2.out.keep hb);clear hb H2 hps;obtain⟨E,hE⟩:∃E,zBl r=E:=⟨_,rfl⟩;rw[hE];by_cases h0:E=0;case neg=>
  have d0:(E != 0)=true:=by simpa using h0
  clear hE h0;go_wp2;go_ret;exact⟨rfl,H3.out.b⟩
 subst h0;have HV:=hid hE;clear hE;have HFW:=hid (format_walk r w3 B (HR.out.below (H3.out.b.mono HBB.out)) (Nat.le_trans HBB.out H3.out.b.size) HF.out (HE.out w3 H3.out.b));go_wp2_with (refine zAa rfl 41 _ rfl rfl H3.out.h.range Tryz.rowRt Tryz.sizeRt ?_);refine HFW.out.mono ?_;rintro e w4 ⟨he4,hb⟩;have H4:=hid (H3.out.keep hb);clear hb HFW H3;obtain⟨F,hF⟩:∃F,F=formatB zBl r:=⟨_,rfl⟩;rw[←hF]at he4;have HFF:=hid hF;clear hF;by_cases hl:65536<(textL 0 (fmtN r)).length;case pos=>
  have E:F=([],7):=HFF.out.trans ((if_pos HV.out).trans (if_pos hl));subst E;subst he4;clear hl;go_wp2_with fail;refine(HSN.out w4 H4.out.b).mono ?_;rintro e w5 ⟨rfl,hb⟩;have H5:=hid (H4.out.keep hb);clear hb;go_wp2;go_ret;exact⟨rfl,H5.out.b⟩
 have E:F=(textL 0 (fmtN r),0):=HFF.out.trans ((if_pos HV.out).trans (if_neg hl));subst E;subst he4;have DT:=hid (fun h=>dup_text HV.out HF.out h);have LT:=hid (zJk (zJq HV.out HF.out).1 0);clear HFF;generalize (zEm 0 (fmtN r))=ls at DT LT;generalize textL 0 (fmtN r)=t at *;have hsz:(str t).size=t.length:=zAv t;by_cases hs:65516<t.length;case pos=>
  have d0:(65516:Int)<((str t).size:Int):=by omega
  clear hs hsz hl;go_wp2_with fail;refine(HSN.out w4 H4.out.b).mono ?_;rintro e w5 ⟨rfl,hb⟩;have H5:=hid (H4.out.keep hb);clear hb;go_wp2;go_ret;exact⟨rfl,H5.out.b⟩
 have d0:¬((65516:Int)<((str t).size:Int)):=by omega
 have HD:=hid (DT.out (by omega))
 have hln:ls.length≤65537:=by
  have:=zKz (str t);rw[zAt,LT.out.1]at this;omega
 have hle:zAu t=0:=by rw[zAu,if_neg (by omega),LT.out.2.1];rfl
 have hlr:zEb t=ls:=by rw[zEb,if_pos hle,LT.out.1]
 have HL:=hid (zNj (str t) w4 0 ls (by rw[zAt];exact hle) (by rw[zAt];exact hlr));have hcat:¬(9223372036854775807<(str t).size+11):=by omega
 clear hs hsz hl DT LT HV hle hlr;go_wp2_with fail;refine HL.out.mono ?_;rintro e w5 ⟨v5,rfl,ho,hb⟩;have H5:=hid (H4.out.keep hb);obtain⟨A,c,ev⟩:=slc_form (Slc.of_own ho);subst ev;clear ho hb H4 HL;have HS:=hid (HP.out (str t++⟨#[115,121,115,116,101,109,32,123,10,125,10]⟩) w5 H5.out.b)
 have EB:bytes (str t++⟨#[115,121,115,116,101,109,32,123,10,125,10]⟩)=t++sysT:=by
  rw[show(⟨#[115,121,115,116,101,109,32,123,10,125,10]⟩:ByteArray)=str sysT from rfl,zIy,zAt]
 rw[EB]at HS;clear EB;have hw:IntKind.i64.wrap ((ls.length:Int)+1)=(ls.length:Int)+1:=by rw[IntKind.wrap_i64];omega
 go_wp2_with fail;refine HS.out.mono ?_;rintro e w6 ⟨hb,x,-,he6,hat,hz,-⟩;rw[HD.out]at he6 hz;dsimp only at he6 hz;obtain rfl:=hz (by decide);subst he6;have H6:=hid (H5.out.keep hb);clear hb hat hz HS HD H5 hcat hln;go_wp2_with (refine zAd rfl 41 _ _ rfl rfl (ds:=rtN.C) rfl (HasC.new _ _ _) rfl Tryz.sizeRt zMu ?_;intro w7 hz1 hz2);have H7:=hid (H6.out.keep (zAi hz2));clear hz1 hz2 H6;refine(HSN.out w7 H7.out.b).mono ?_;rintro e w8 ⟨rfl,hb⟩;have H8:=hid (H7.out.keep hb);clear hb;go_wp2;go_ret;exact⟨rfl,H8.out.b⟩
theorem zLr(r:Rt)(w:World)(he:EnvA w.heap.size w)(h:r.at w w.heap.size)(hf:r.fit):Calls Tryz.prog 8 #[.agg r.C] w fun e w' => e=.returned (.bool true)∧Below w.heap.size w w' := zLq r w _ (Nat.le_refl _) h hf he
end Go.Proofs.YtdlgnhefpoalnaaGreatDoor
