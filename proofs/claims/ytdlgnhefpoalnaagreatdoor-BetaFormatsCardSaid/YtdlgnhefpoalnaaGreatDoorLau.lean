/- The reference's FormatBeta: the walk of statics. Conditions: the text is at most 2^47 bytes; addresses are numbers below 2^32. -/
import Derived.Test.YtdlgnhefpoalnaaGreatDoorLat
import Derived.Test.YtdlgnhefpoalnaaGreatDoorLas
set_option maxHeartbeats 16000000
set_option maxRecDepth 100000
namespace Go.Proofs.YtdlgnhefpoalnaaGreatDoor
open Lib (hid)
open Go.RowKit
theorem decN(m:Nat)(h:m≤65535)(w:World):Calls Tryz.prog 110 #[.int .i64 (m:Int)] w fun e w' => e=.returned (.string (str (dec m)))∧w=w' := zJv m w (by omega)
theorem zJu(a:Nat)(n:Int)(w:World)(ha:a<4294967296):Calls Tryz.prog 111 #[.int .u32 (a:Int),.int .i64 n] w fun e w' => e=.returned (.string (str (hostF a n)))∧w=w' := by
 by_cases h0:n<0
 ·have E:Hid (hostF a n=[]):=hid (by unfold hostF;rw[if_neg (by omega)])
  go_enter Tryz.func111,Tryz.ntmps111;go_wp2;go_ret;exact⟨by rw[E.out];rfl,rfl⟩
 by_cases h1:32<n
 ·have E:Hid (hostF a n=[]):=hid (by unfold hostF;rw[if_neg (by omega)])
  go_enter Tryz.func111,Tryz.ntmps111;go_wp2;go_ret;exact⟨by rw[E.out];rfl,rfl⟩
 obtain⟨m,rfl⟩:=Int.eq_ofNat_of_zero_le (Int.not_lt.1 h0);have E:Hid (hostF a m=cat (cat (fmtA a) [47]) (dec m)):=hid (by unfold hostF;rw[if_pos (by omega),Int.toNat_natCast];rfl);have s0:=zDd a;have s1:=zGw 2 m (by omega);have q1:Op.stringOp .add (str (fmtA a)) ⟨#[47]⟩=pure (.string (str (cat (fmtA a) [47]))):=run_cat (m:=[47]) (by simp;omega);have q2:Op.stringOp .add (str (cat (fmtA a) [47])) (str (dec m))=pure (.string (str (cat (cat (fmtA a) [47]) (dec m)))):=run_cat (by rw[cat_len];simp;omega);have d0:decide ((m:Int)<0)=false:=by simp
 have d1:decide ((32:Int)<m)=false:=by simp;omega
 have HD:=hid (decN m (by omega) w);clear s0 s1;go_enter Tryz.func111,Tryz.ntmps111;go_wp2_with fail;refine(zEf a _ ha).mono ?_;rintro e w1 ⟨rfl,rfl⟩;go_wp2_with fail;refine HD.out.mono ?_;rintro e w2 ⟨rfl,rfl⟩;go_wp2;go_ret;exact⟨by rw[E.out];rfl,rfl⟩
theorem zDk(p:Nat)(n:Int)(w:World)(hp:p<4294967296):Calls Tryz.prog 113 #[.agg #[.int .u32 (p:Int),.int .i64 n]] w fun e w' => e=.returned (.string (str (pfxF p n)))∧Below w.heap.size w w' := by
 have C1:=fun w=>zFe p n w hp
 unfold PV at C1;have H1:=hid C1;clear C1;cases hv:zAv p n with
 |false=>
  have E:Hid (pfxF p n=[]):=hid (by unfold pfxF;rw[hv];rfl);go_enter Tryz.func113,Tryz.ntmps113;go_wp2_with fail;refine(H1.out _).mono ?_;rintro e w1 ⟨rfl,hb1⟩;have hb:Below w.heap.size w w1:=((Below.refl _ w).alloc (yI _) _).trans (hb1.mono (by simp));clear hb1;go_wp2;go_ret;exact⟨by rw[E.out];rfl,hb⟩
 |true=>
  have E:Hid (pfxF p n=hostF p n):=hid (by unfold pfxF;rw[hv];rfl);have HS:=hid (fun w=>zJu p n w hp);go_enter Tryz.func113,Tryz.ntmps113;go_wp2_with fail;refine(H1.out _).mono ?_;rintro e w1 ⟨rfl,hb1⟩;have hb:Below w.heap.size w w1:=((Below.refl _ w).alloc (yI _) _).trans (hb1.mono (by simp));have c0:w1.cell? ⟨w.heap.size,0,none⟩=some (.int .u32 (p:Int)):=(hb1.cell (p:=⟨w.heap.size,0,none⟩) (by simp)).trans (zCy _ _ _ _);have c1:w1.cell? ⟨w.heap.size,1,none⟩=some (.int .i64 n):=(hb1.cell (p:=⟨w.heap.size,1,none⟩) (by simp)).trans (zCy _ _ _ _);clear hb1;go_wp2_with fail;refine(HS.out _).mono ?_;rintro e w2 ⟨rfl,rfl⟩;go_wp2;go_ret;exact⟨by rw[E.out];rfl,hb⟩
theorem zBy(n:Int)(w:World)(h0:0≤n)(h1:n≤16777215):Calls Tryz.prog 42 #[.int .i64 n] w fun e w' => e=.returned (.string (str (decI n)))∧w=w' := by
 obtain⟨m,rfl⟩:=Int.eq_ofNat_of_zero_le h0;have hz:¬((m:Int)<0):=by omega
 have HD:=hid (zJv m w (by omega));go_enter Tryz.func42,Tryz.ntmps42;go_wp2_with fail;refine HD.out.mono ?_;rintro e w1 ⟨rfl,rfl⟩;go_wp2;go_ret;exact⟨by rw[decI,Int.toNat_natCast];rfl,rfl⟩
theorem rallow_any(b:Bool)(w:World):Calls Tryz.prog 112 #[.bool b] w fun e w' => e=.returned (.string (str (if b then [112,101,114,109,105,116]else [100,101,110,121])))∧w=w' := by
 cases b
 all_goals
  go_enter Tryz.func112,Tryz.ntmps112;go_wp2;go_ret;exact⟨rfl,rfl⟩
theorem rtrans_any(p:Int)(w:World)(h0:0≤p)(h1:p≤255):Calls Tryz.prog 114 #[.int .i64 p] w fun e w' => e=.returned (.string (str (protW p)))∧w=w' := by
 by_cases h6:p=6
 ·subst h6
  go_enter Tryz.func114,Tryz.ntmps114;go_wp2;go_ret;exact⟨rfl,rfl⟩
 by_cases h17:p=17
 ·subst h17
  go_enter Tryz.func114,Tryz.ntmps114;go_wp2;go_ret;exact⟨rfl,rfl⟩
 have d0:(p == -1)=false:=by rw[beq_eq_false_iff_ne];omega
 have d1:(p==6)=false:=by rw[beq_eq_false_iff_ne];omega
 have d2:(p==17)=false:=by rw[beq_eq_false_iff_ne];omega
 have E:Hid (protW p=decI p):=hid (by unfold protW;rw[d1,d2];rfl);have HD:=hid (zBy p w h0 (by omega));clear h6 h17;go_enter Tryz.func114,Tryz.ntmps114;go_wp2_with fail;refine HD.out.mono ?_;rintro e w1 ⟨rfl,rfl⟩;go_wp2;go_ret;exact⟨by rw[E.out];rfl,rfl⟩
theorem rfull_any(lo hi:Int)(w:World):Calls Tryz.prog 116 #[.agg #[.int .i64 lo,.int .i64 hi]] w fun e w' => e=.returned (.bool (lo==0&&hi==65535))∧Below w.heap.size w w' := by
 have r1:∀w,(binOp .eql 142 (.agg #[.int .i64 lo,.int .i64 hi]) (.agg #[.int .i64 0,.int .i64 65535])).run Tryz.prog w=.ok (.bool (lo==0&&hi==65535)) w:=fun w=>by rw[rng_eql,Bool.decide_and];rfl
 go_enter Tryz.func116,Tryz.ntmps116;go_wp2;go_ret;exact⟨rfl,(Below.refl _ w).alloc (yI _) _⟩
theorem rportT_any(lo hi:Int)(w:World)(h0:0≤lo)(h1:lo≤hi)(h2:hi≤65535):Calls Tryz.prog 117 #[.agg #[.int .i64 lo,.int .i64 hi]] w fun e w' => e=.returned (.string (str (portW lo hi)))∧Below w.heap.size w w' := by
 have HC:Hid (PB lo hi w (w.alloc (.cells #[.int .i64 lo,.int .i64 hi] 142))):=hid ⟨HasC.new w _ _,(Below.refl w.heap.size w).alloc (yI _) _⟩;have HF:Hid (∀(n:Int),0≤n→n≤16777215→∀W,PB lo hi w W→Calls Tryz.prog 42 #[.int .i64 n] W fun e w' => e=.returned (.string (str (decI n)))∧PB lo hi w w'):=hid fun n h0 h1 W hW=>(zBy n W h0 h1).mono fun e w' ⟨he,hw⟩=>⟨he,hw ▸ hW⟩
 have HX:Hid (∀W,PB lo hi w W→W.cell? ⟨w.heap.size,0,none⟩=some (.int .i64 lo)∧W.cell? ⟨w.heap.size,1,none⟩=some (.int .i64 hi)):=hid fun W hW=>⟨hW.1.cell 0,hW.1.cell 1⟩
 by_cases hh:lo=hi
 ·subst hh
  have E:Hid (portW lo lo=decI lo):=hid (by unfold portW;rw[if_pos (by simp)]);obtain⟨c0,c1⟩:=HX.out _ HC.out;go_enter Tryz.func117,Tryz.ntmps117;go_wp2_with fail;refine(HF.out lo h0 (by omega) _ HC.out).mono ?_;rintro e w1 ⟨rfl,hb⟩;have R:=hid hb.2;clear hb;go_wp2;go_ret;exact⟨by rw[E.out];rfl,R.out⟩
 have E:Hid (portW lo hi=decI lo++45 :: decI hi):=hid (by unfold portW;rw[if_neg (by simpa using hh)];simp);have d1:(lo==hi)=false:=by simpa using hh
 have l1:=zMw (n:=lo) (by omega);have l2:=zMw (n:=hi) (by omega);rw[zBa]at l1 l2;have Q0:=hid (HF.out lo h0 (by omega));have Q1:=hid (HF.out hi (by omega) (by omega));obtain⟨c0,c1⟩:=HX.out _ HC.out;clear hh HF;go_enter Tryz.func117,Tryz.ntmps117;go_upto_region 3 with fail
 clear c0 c1;refine zBf (fun W=>PB lo hi w W) (by kernel_rfl) (by kernel_rfl) (HC.out.keep (zAo _)) ?_
 repeat
  (first
   |(refine seq_add rfl rfl rfl rfl ?_ ?_;(· (simp;omega)))
   |(refine zCk (v:=?_) ?_ ?_ ?_;rotate_left;(· rfl);(· (intro W hW;obtain⟨c0,c1⟩:=HX.out W hW;go_simp<;>rfl)))
   |(refine zBp ?_ ?_ Q0.out ?_;(· rfl);(· (intro W hW;go_simp<;>rfl)))
   |(refine zBp ?_ ?_ Q1.out ?_;(· rfl);(· (intro W hW;go_simp<;>rfl))))
  simp only[Act.put,yB,yC,yD]
 refine zDn (fun wq hS=>?_);have R:=hid hS.2;clear hS;go_wp2;go_ret;exact⟨by rw[E.out];rfl,R.out⟩
theorem rpat_full(a m:Nat)(w:World)(h:m=4294967295):Calls Tryz.prog 115 #[.agg #[.int .u32 (a:Int),.int .u32 (m:Int)]] w fun e w' => e=.returned (.string (str [97,110,121]))∧Below w.heap.size w w' := by
 subst h;go_enter Tryz.func115,Tryz.ntmps115;go_wp2;go_ret;exact⟨rfl,(Below.refl _ w).alloc (yI _) _⟩
theorem rpat_any(a m:Nat)(w:World)(ha:a<4294967296)(hm:m<4294967296)(hn:m≠4294967295):Calls Tryz.prog 115 #[.agg #[.int .u32 (a:Int),.int .u32 (m:Int)]] w fun e w' => e=.returned (.string (str (wildW a m)))∧Below w.heap.size w w' := by
 have HC:Hid (WB a m w (w.alloc (.cells #[.int .u32 (a:Int),.int .u32 (m:Int)] 140))):=hid ⟨HasC.new w _ _,(Below.refl w.heap.size w).alloc (yI _) _⟩;have HF:Hid (∀(b:Nat),b<4294967296→∀W,WB a m w W→Calls Tryz.prog 118 #[.int .u32 (b:Int)] W fun e w' => e=.returned (.string (str (fmtA b)))∧WB a m w w'):=hid fun b hb W hW=>(zEf b W hb).mono fun e w' ⟨he,hw⟩=>⟨he,hw ▸ hW⟩
 have HX:Hid (∀W,WB a m w W→W.cell? ⟨w.heap.size,0,none⟩=some (.int .u32 (a:Int))∧W.cell? ⟨w.heap.size,1,none⟩=some (.int .u32 (m:Int))):=hid fun W hW=>⟨hW.1.cell 0,hW.1.cell 1⟩
 obtain⟨c0,c1⟩:=HX.out _ HC.out;have d0:((m:Int)==4294967295)=false:=by rw[beq_eq_false_iff_ne];omega
 by_cases h0:m=0
 ·subst h0
  have E:Hid (wildW a 0=fmtA a):=hid (by unfold wildW;rw[show zBn (4294967295 - 0) 33=some 32 by decide];rfl);clear d0 hn;go_enter Tryz.func115,Tryz.ntmps115;go_wp2_with fail;refine(HF.out a ha _ HC.out).mono ?_;rintro e w1 ⟨rfl,hb⟩;have R:=hid hb.2;clear hb;go_wp2;go_ret;exact⟨by rw[E.out];rfl,R.out⟩
 have d1:((m:Int)==0)=false:=by rw[beq_eq_false_iff_ne];omega
 have nx:=not_u32 hm;have us:IntKind.u32.signed=false:=rfl;cases hl:zBn (4294967295 - m) 33 with
 |some n=>
  have l1:(zBn (4294967295 - m) 33).getD 0=n:=by rw[hl];rfl
  have l2:(zBn (4294967295 - m) 33).isSome=true:=by rw[hl];rfl
  have E:Hid (wildW a m=hostF a n):=hid (by
   have h3:n≠32:=by
    rintro rfl;have:=(zMf (yI 33) hl).2;rw[show maskN ((32:Nat):Int)=4294967295 by decide]at this;omega
   unfold wildW;rw[hl];simp only[if_neg h3])
  go_enter Tryz.func115,Tryz.ntmps115;go_wp2_with fail;refine(zMa (4294967295 - m) _).mono ?_;rintro e w1 ⟨rfl,rfl⟩;rw[l1,l2];go_wp2_with fail;refine(zJu a n _ ha).mono ?_;rintro e w1 ⟨rfl,rfl⟩;go_wp2;go_ret;exact⟨by rw[E.out];rfl,HC.out.2⟩
 |none=>
  have l1:(zBn (4294967295 - m) 33).getD 0=0:=by rw[hl];rfl
  have l2:(zBn (4294967295 - m) 33).isSome=false:=by rw[hl];rfl
  have E:Hid (wildW a m=fmtA a++126 :: fmtA m):=hid (by unfold wildW;rw[hl];simp);have s1:=zDd a;have s2:=zDd m;have Q0:=hid (HF.out a ha);have Q1:=hid (HF.out m hm);go_enter Tryz.func115,Tryz.ntmps115;go_wp2_with fail;refine(zMa (4294967295 - m) _).mono ?_;rintro e w1 ⟨rfl,rfl⟩;rw[l1,l2];go_upto_region 8 with fail
  clear c0 c1 HF;refine zBf (fun W=>WB a m w W) (by kernel_rfl) (by kernel_rfl) (HC.out.keep (zAo _)) ?_
  repeat
   (first
    |(refine seq_add rfl rfl rfl rfl ?_ ?_;(· (simp;omega)))
    |(refine zCk (v:=?_) ?_ ?_ ?_;rotate_left;(· rfl);(· (intro W hW;obtain⟨c0,c1⟩:=HX.out W hW;go_simp<;>rfl)))
    |(refine zBp ?_ ?_ Q0.out ?_;(· rfl);(· (intro W hW;go_simp<;>rfl)))
    |(refine zBp ?_ ?_ Q1.out ?_;(· rfl);(· (intro W hW;go_simp<;>rfl))))
   simp only[Act.put,yB,yC,yD]
  refine zDn (fun wq hS=>?_);have R:=hid hS.2;clear hS;go_wp2;go_ret;exact⟨by rw[E.out];rfl,R.out⟩
theorem winterfaces_any(g:Nat)(s:List UInt8)(l:List If)(v:Value)(w:World)(B:Nat)(h:HasC 108 g (WC 0 s) w)(hB:B≤g)(hv:SlV w B 12 If.C v l)(hx:∀x∈l,zDj x=true∧x.fit)(hl:(s++textL 0 (ifsN l)).length≤140737488355328) :
  Calls Tryz.prog 44 #[.pointer (some ⟨g,0,none⟩),v] w (WP g 0 s (textL 0 (ifsN l)) w):=by
 have HV:=hid hv;have hln:l.length≤9223372036854775807:=by have:=hv.len;unfold maxLen at this;omega
 obtain⟨A,c,hve,hle,-⟩:=hv;have H:=hid (XW.start h);replace hx:=hid hx;replace hB:=hid hB;clear h;subst hve;cases hem:l.isEmpty with
 |true=>
  obtain rfl:=List.isEmpty_iff.1 hem;go_enter Tryz.func44,Tryz.ntmps44;go_wp2_with fail;go_end0;exact⟨rfl,by rw[show ifsN []=[]from rfl,textL,yF];exact H.out.t,World.grownBy.refl _ _⟩
 |false=>
 have hz:((l.length:Int)==0)=false:=by
  cases l with
  |nil=>cases hem
  |cons a b=>rw[beq_eq_false_iff_ne];simp only[yG];omega
 have EL:Hid (textL 0 (ifsN l)=lineW 0 [[105,110,116,101,114,102,97,99,101,115]] [32,123]++textL 1 (l.map ifN)++lineW 0 [] [125]):=hid (by rw[ifsN,hem,if_neg (by decide),zAz,zBm]);rw[EL.out]at hl;have HL:=hid hl;clear hl hem;go_enter Tryz.func44,Tryz.ntmps44;go_wp2_with fail;refine(ropen H.out [[105,110,116,101,114,102,97,99,101,115]] (by first|(simp[joinW];done)|rfl) (by decide) (by have:=HL.out;simp only[yA]at this⊢;omega)).mono ?_;rintro e w2 ⟨rfl,h2⟩;have H2:=hid h2;clear h2 H;go_wp2;go_loopg [4,5] l.length (fun gh ix _ wr=>∃k:Nat,k+gh=l.length∧ix=.int .i64 k∧Hid (XW [] g 1 (s++lineW 0 [[105,110,116,101,114,102,97,99,101,115]] [32,123]++textL 1 ((l.take k).map ifN)) w wr));case atStart=>exact⟨0,by omega,rfl,hid (by rw[List.take_zero,List.map_nil,textL,yF];exact H2.out)⟩
 case round=>
  clear H2;obtain⟨k,hk,rfl,HR⟩:=hrel;by_cases hlt:k<l.length;case neg=>
   have hkz:¬((k:Int)<(l.length:Int)):=by omega
   have E:=zBc 1 ifN hlt;go_wp2_with fail;refine(zFh HR.out (by decide) (by rw[E];have:=HL.out;simp only[yA]at this⊢;omega)).mono ?_;rintro e w3 ⟨rfl,h3⟩;have R:=hid h3;clear h3;go_wp2_with fail;go_end0;refine⟨rfl,?_,R.out.k⟩;have:=R.out.t;rw[E]at this;rw[EL.out];simpa only[yE] using this
  have hkz:(k:Int)<(l.length:Int):=by omega
  obtain⟨gr,o,c', e',-,hgr,R0⟩:=SlV.elem (n:=12) (by decide) (fun _=>rfl) HV.out hlt;injection e' with e1 e2 e3
  subst e1 e3;have r1:=hid (zAg R0 (HR.out.low hB.out) hgr);clear R0 e2;have HX:=hid (hx.out _ (List.getElem_mem hlt));have ET:=hid (zAu 1 ifN hlt);have HP:=hid (zAy 1 ifN hlt);generalize l[k]=x at HX ET HP r1;go_upto_region 6 with(first|(refine zAa rfl 72 _ rfl rfl r1.out Tryz.rowIf Tryz.sizeIf ?_)|(refine zAd rfl 72 _ _ rfl rfl rfl (HasC.new wr _ _) rfl Tryz.sizeIf (If.one x) ?_;intro w4 hz1 hz2))
  obtain⟨p,hp⟩:∃zz,zz=s++lineW 0 [[105,110,116,101,114,102,97,99,101,115]] [32,123]++textL 1 ((l.take k).map ifN):=⟨_,rfl⟩;have H4:Hid (XW [(72,wr.heap.size,x.C)] g 1 p w w4):=hid (by rw[hp];exact HR.out.new hz1 (zAi hz2));have HN:Hid (textN 1 (ifN x)=lineW 1 [x.name] [32,123]++(textL 2 (ifP 0 x)++(textL 2 (ifP 1 x)++(textL 2 (ifP 2 x)++(textL 2 (ifP 3 x)++(textL 2 (ifP 4 x)++(textL 2 (ifP 5 x)++(textL 2 (ifP 6 x)++(textL 2 (ifP 7 x)))))))))++lineW 1 [] [125]):=hid (by simp only[ifN,ifK,zBm,zBt]);have HM:Hid (p.length+(lineW 1 [x.name] [32,123]++(textL 2 (ifP 0 x)++(textL 2 (ifP 1 x)++(textL 2 (ifP 2 x)++(textL 2 (ifP 3 x)++(textL 2 (ifP 4 x)++(textL 2 (ifP 5 x)++(textL 2 (ifP 6 x)++(textL 2 (ifP 7 x)))))))))++lineW 1 [] [125]).length≤140737488355328):=hid (by rw[←HN.out,hp];have:=HL.out;have:=HP.out;simp only[yA]at *;omega);clear hz1 hz2 r1 HR HP;generalize wr.heap.size=gx at H4⊢;obtain⟨hr,hf⟩:=HX.out;obtain⟨k1,k2,k3,-,k5,k6,-⟩:=ifc_ok hr;clear hr;have c0:w4.cell? ⟨gx,0,none⟩=some (.string (str x.name)):=H4.out.a.cell 0;go_wp2_with (refine zAf rfl rfl rfl rfl (by simp[lineW,joinW]at hj⊢;omega) ?_);refine(ropen H4.out [x.name] (by first|(simp[joinW];done)|rfl) (by decide) (by have:=HM.out;simp only[yA]at this⊢;omega)).mono ?_;rintro e w5 ⟨rfl,h2⟩;have H5:=hid h2;clear h2;clear H4 c0;have c1:w5.cell? ⟨gx,1,none⟩=some (.int .u32 (x.addr:Int)):=H5.out.a.cell 1;have c2:w5.cell? ⟨gx,2,none⟩=some (.int .i64 x.len):=H5.out.a.cell 2;go_upto_if 27 with fail
  go_cut [] (fun wx=>XW [(72,gx,x.C)] g 2 (p++lineW 1 [x.name] [32,123]++textL 2 (ifP 0 x)) w wx)
  case first=>
   cases hc:(!(x.len==0))with
   |true=>
    have E:textL 2 (ifP 0 x)=lineW 2 [[97,100,100,114,101,115,115],hostF x.addr x.len] [59]:=zAq hc;have hj:(lineW 2 [[97,100,100,114,101,115,115],hostF x.addr x.len] [59]).length≤140737488355328:=(by rw[←E];have:=HM.out;simp only[yA]at this⊢;omega);have hs:(x.len != 0)=true:=hc;rw[hs];go_wp2_with (refine zAf rfl rfl rfl rfl (by simp[lineW,joinW]at hj⊢;omega) ?_);refine(zJu x.addr x.len _ hf).mono ?_;rintro e w1 ⟨rfl,rfl⟩;go_wp2_with (refine zAf rfl rfl rfl rfl (by simp[lineW,joinW]at hj⊢;omega) ?_);refine(rput H5.out [[97,100,100,114,101,115,115],hostF x.addr x.len] (by first|(simp[joinW];done)|rfl) (by decide) (by rw[←E];have:=HM.out;simp only[yA]at this⊢;omega)).mono ?_;rintro e w2 ⟨rfl,h2⟩;have H2:=hid h2;clear h2;go_wp2;go_meet;rw[E];exact H2.out
   |false=>
    have hs:(x.len != 0)=false:=hc;rw[hs];go_wp2;go_meet;rw[show textL 2 (ifP 0 x)=[]from zAl hc,yF];exact H5.out
  case rest=>
  clear H5 c1 c2;have H:=hid hcut;clear hcut;have c3:wc.cell? ⟨gx,3,none⟩=some (.int .i64 x.vlan):=H.out.a.cell 3;go_upto_if 39 with fail
  go_cut [] (fun wx=>XW [(72,gx,x.C)] g 2 (p++lineW 1 [x.name] [32,123]++textL 2 (ifP 0 x)++textL 2 (ifP 1 x)) w wx)
  case first=>
   cases hc:(!(x.vlan==0))with
   |true=>
    have E:textL 2 (ifP 1 x)=lineW 2 [[118,108,97,110],decI x.vlan] [59]:=zAq hc;have hj:(lineW 2 [[118,108,97,110],decI x.vlan] [59]).length≤140737488355328:=(by rw[←E];have:=HM.out;simp only[yA]at this⊢;omega);have hs:(x.vlan != 0)=true:=hc;rw[hs];go_wp2_with (refine zAf rfl rfl rfl rfl (by simp[lineW,joinW]at hj⊢;omega) ?_);refine(zBy x.vlan _ k2.1 (by omega)).mono ?_;rintro e w1 ⟨rfl,rfl⟩;go_wp2_with (refine zAf rfl rfl rfl rfl (by simp[lineW,joinW]at hj⊢;omega) ?_);refine(rput H.out [[118,108,97,110],decI x.vlan] (by first|(simp[joinW];done)|rfl) (by decide) (by rw[←E];have:=HM.out;simp only[yA]at this⊢;omega)).mono ?_;rintro e w2 ⟨rfl,h2⟩;have H2:=hid h2;clear h2;go_wp2;go_meet;rw[E];exact H2.out
   |false=>
    have hs:(x.vlan != 0)=false:=hc;rw[hs];go_wp2;go_meet;rw[show textL 2 (ifP 1 x)=[]from zAl hc,yF];exact H.out
  case rest=>
  clear H c3;have H:=hid hcut;clear hcut;have c4:wc.cell? ⟨gx,4,none⟩=some (.bool x.down):=H.out.a.cell 4;go_upto_if 48 with fail
  go_cut [] (fun wx=>XW [(72,gx,x.C)] g 2 (p++lineW 1 [x.name] [32,123]++textL 2 (ifP 0 x)++textL 2 (ifP 1 x)++textL 2 (ifP 2 x)) w wx)
  case first=>
   cases hc:(x.down)with
   |true=>
    have E:textL 2 (ifP 2 x)=lineW 2 [[100,105,115,97,98,108,101]] [59]:=zAq hc;have hj:(lineW 2 [[100,105,115,97,98,108,101]] [59]).length≤140737488355328:=(by rw[←E];have:=HM.out;simp only[yA]at this⊢;omega);go_wp2_with (refine zAf rfl rfl rfl rfl (by simp[lineW,joinW]at hj⊢;omega) ?_);refine(rput H.out [[100,105,115,97,98,108,101]] (by first|(simp[joinW];done)|rfl) (by decide) (by rw[←E];have:=HM.out;simp only[yA]at this⊢;omega)).mono ?_;rintro e w2 ⟨rfl,h2⟩;have H2:=hid h2;clear h2;go_wp2;go_meet;rw[E];exact H2.out
   |false=>
    go_wp2;go_meet;rw[show textL 2 (ifP 2 x)=[]from zAl hc,yF];exact H.out
  case rest=>
  clear H c4;have H:=hid hcut;clear hcut;have c5:wc.cell? ⟨gx,5,none⟩=some (.bool x.ls):=H.out.a.cell 5;go_upto_if 52 with fail
  go_cut [] (fun wx=>XW [(72,gx,x.C)] g 2 (p++lineW 1 [x.name] [32,123]++textL 2 (ifP 0 x)++textL 2 (ifP 1 x)++textL 2 (ifP 2 x)++textL 2 (ifP 3 x)) w wx)
  case first=>
   cases hc:(x.ls)with
   |true=>
    have E:textL 2 (ifP 3 x)=lineW 2 [[108,105,110,107,45,115,116,97,116,101],[97,114,101,97],decI x.area,[99,111,115,116],decI x.cost] [59]:=zAq hc;have hj:(lineW 2 [[108,105,110,107,45,115,116,97,116,101],[97,114,101,97],decI x.area,[99,111,115,116],decI x.cost] [59]).length≤140737488355328:=(by rw[←E];have:=HM.out;simp only[yA]at this⊢;omega);go_upto_region 14 with fail
    have HX:Hid (∀W,XW [(72,gx,x.C)] g 2 (p++lineW 1 [x.name] [32,123]++textL 2 (ifP 0 x)++textL 2 (ifP 1 x)++textL 2 (ifP 2 x)) w W→W.cell? ⟨gx,6,none⟩=some (.int .i64 x.area)∧W.cell? ⟨gx,7,none⟩=some (.int .i64 x.cost)):=hid fun W hW=>⟨hW.a.cell 6,hW.a.cell 7⟩
    have Q0:Hid (∀W,XW [(72,gx,x.C)] g 2 (p++lineW 1 [x.name] [32,123]++textL 2 (ifP 0 x)++textL 2 (ifP 1 x)++textL 2 (ifP 2 x)) w W→Calls Tryz.prog 42 #[.int .i64 x.area] W fun e w' => e=.returned (.string (str (decI x.area)))∧XW [(72,gx,x.C)] g 2 (p++lineW 1 [x.name] [32,123]++textL 2 (ifP 0 x)++textL 2 (ifP 1 x)++textL 2 (ifP 2 x)) w w'):=hid fun W hW=>(zBy x.area W (k6 hc).1.1 (by have:=(k6 hc).1.2;omega)).mono fun e w' ⟨he,hw⟩=>⟨he,hw ▸ hW⟩
    have Q1:Hid (∀W,XW [(72,gx,x.C)] g 2 (p++lineW 1 [x.name] [32,123]++textL 2 (ifP 0 x)++textL 2 (ifP 1 x)++textL 2 (ifP 2 x)) w W→Calls Tryz.prog 42 #[.int .i64 x.cost] W fun e w' => e=.returned (.string (str (decI x.cost)))∧XW [(72,gx,x.C)] g 2 (p++lineW 1 [x.name] [32,123]++textL 2 (ifP 0 x)++textL 2 (ifP 1 x)++textL 2 (ifP 2 x)) w w'):=hid fun W hW=>(zBy x.cost W (by have:=(k6 hc).2.1;omega) (by have:=(k6 hc).2.2;omega)).mono fun e w' ⟨he,hw⟩=>⟨he,hw ▸ hW⟩
    refine zCj (fun W=>XW [(72,gx,x.C)] g 2 (p++lineW 1 [x.name] [32,123]++textL 2 (ifP 0 x)++textL 2 (ifP 1 x)++textL 2 (ifP 2 x)) w W) 11 (by kernel_rfl) (by kernel_rfl) H.out.drew ?_
    repeat
     (first
      |(refine zHu rfl rfl rfl rfl ?_ ?_;(· (simp[lineW,joinW]at hj⊢;omega)))
      |(refine zBq (v:=?_) ?_ ?_ ?_;rotate_left;(· rfl);(· (intro W hW;obtain⟨c6,c7⟩:=HX.out W hW;go_simp<;>rfl)))
      |(refine zAm ?_ ?_ Q0.out ?_;(· rfl);(· (intro W hW;go_simp<;>rfl)))
      |(refine zAm ?_ ?_ Q1.out ?_;(· rfl);(· (intro W hW;go_simp<;>rfl))))
     simp only[Act.put,yB,yC,yD]
    refine zCg ?_;intro wq hS;change wpList _ _ _ (_ :: []) _ _;have HS:=hid hS;clear hS HX Q0 Q1;go_wp2_with fail;refine(rput HS.out [[108,105,110,107,45,115,116,97,116,101],[97,114,101,97],decI x.area,[99,111,115,116],decI x.cost] (by first|(simp[joinW];done)|rfl) (by decide) (by rw[←E];have:=HM.out;simp only[yA]at this⊢;omega)).mono ?_;rintro e w2 ⟨rfl,h2⟩;have H2:=hid h2;clear h2;go_wp2;go_meet;rw[E];exact H2.out
   |false=>
    go_wp2;go_meet;rw[show textL 2 (ifP 3 x)=[]from zAl hc,yF];exact H.out
  case rest=>
  clear H c5;have H:=hid hcut;clear hcut;have c8:wc.cell? ⟨gx,8,none⟩=some (.bool x.dv):=H.out.a.cell 8;go_upto_if 66 with fail
  go_cut [] (fun wx=>XW [(72,gx,x.C)] g 2 (p++lineW 1 [x.name] [32,123]++textL 2 (ifP 0 x)++textL 2 (ifP 1 x)++textL 2 (ifP 2 x)++textL 2 (ifP 3 x)++textL 2 (ifP 4 x)) w wx)
  case first=>
   cases hc:(x.dv)with
   |true=>
    have E:textL 2 (ifP 4 x)=lineW 2 [[100,105,115,116,97,110,99,101,45,118,101,99,116,111,114]] [59]:=zAq hc;have hj:(lineW 2 [[100,105,115,116,97,110,99,101,45,118,101,99,116,111,114]] [59]).length≤140737488355328:=(by rw[←E];have:=HM.out;simp only[yA]at this⊢;omega);go_wp2_with (refine zAf rfl rfl rfl rfl (by simp[lineW,joinW]at hj⊢;omega) ?_);refine(rput H.out [[100,105,115,116,97,110,99,101,45,118,101,99,116,111,114]] (by first|(simp[joinW];done)|rfl) (by decide) (by rw[←E];have:=HM.out;simp only[yA]at this⊢;omega)).mono ?_;rintro e w2 ⟨rfl,h2⟩;have H2:=hid h2;clear h2;go_wp2;go_meet;rw[E];exact H2.out
   |false=>
    go_wp2;go_meet;rw[show textL 2 (ifP 4 x)=[]from zAl hc,yF];exact H.out
  case rest=>
  clear H c8;have H:=hid hcut;clear hcut;have c9:wc.cell? ⟨gx,9,none⟩=some (.string (str x.inn)):=H.out.a.cell 9;go_upto_if 71 with fail
  go_cut [] (fun wx=>XW [(72,gx,x.C)] g 2 (p++lineW 1 [x.name] [32,123]++textL 2 (ifP 0 x)++textL 2 (ifP 1 x)++textL 2 (ifP 2 x)++textL 2 (ifP 3 x)++textL 2 (ifP 4 x)++textL 2 (ifP 5 x)) w wx)
  case first=>
   cases hc:(!x.inn.isEmpty)with
   |true=>
    have E:textL 2 (ifP 5 x)=lineW 2 [[105,110,112,117,116],x.inn] [59]:=zAq hc;have hj:(lineW 2 [[105,110,112,117,116],x.inn] [59]).length≤140737488355328:=(by rw[←E];have:=HM.out;simp only[yA]at this⊢;omega);have hs:=zEx hc;rw[hs];go_wp2_with (refine zAf rfl rfl rfl rfl (by simp[lineW,joinW]at hj⊢;omega) ?_);refine(rput H.out [[105,110,112,117,116],x.inn] (by first|(simp[joinW];done)|rfl) (by decide) (by rw[←E];have:=HM.out;simp only[yA]at this⊢;omega)).mono ?_;rintro e w2 ⟨rfl,h2⟩;have H2:=hid h2;clear h2;go_wp2;go_meet;rw[E];exact H2.out
   |false=>
    have hs:=zEy hc;rw[hs];go_wp2;go_meet;rw[show textL 2 (ifP 5 x)=[]from zAl hc,yF];exact H.out
  case rest=>
  clear H c9;have H:=hid hcut;clear hcut;have c10:wc.cell? ⟨gx,10,none⟩=some (.string (str x.out)):=H.out.a.cell 10;go_upto_if 80 with fail
  go_cut [] (fun wx=>XW [(72,gx,x.C)] g 2 (p++lineW 1 [x.name] [32,123]++textL 2 (ifP 0 x)++textL 2 (ifP 1 x)++textL 2 (ifP 2 x)++textL 2 (ifP 3 x)++textL 2 (ifP 4 x)++textL 2 (ifP 5 x)++textL 2 (ifP 6 x)) w wx)
  case first=>
   cases hc:(!x.out.isEmpty)with
   |true=>
    have E:textL 2 (ifP 6 x)=lineW 2 [[111,117,116,112,117,116],x.out] [59]:=zAq hc;have hj:(lineW 2 [[111,117,116,112,117,116],x.out] [59]).length≤140737488355328:=(by rw[←E];have:=HM.out;simp only[yA]at this⊢;omega);have hs:=zEx hc;rw[hs];go_wp2_with (refine zAf rfl rfl rfl rfl (by simp[lineW,joinW]at hj⊢;omega) ?_);refine(rput H.out [[111,117,116,112,117,116],x.out] (by first|(simp[joinW];done)|rfl) (by decide) (by rw[←E];have:=HM.out;simp only[yA]at this⊢;omega)).mono ?_;rintro e w2 ⟨rfl,h2⟩;have H2:=hid h2;clear h2;go_wp2;go_meet;rw[E];exact H2.out
   |false=>
    have hs:=zEy hc;rw[hs];go_wp2;go_meet;rw[show textL 2 (ifP 6 x)=[]from zAl hc,yF];exact H.out
  case rest=>
  clear H c10;have H:=hid hcut;clear hcut;have c11:wc.cell? ⟨gx,11,none⟩=some (.int .i64 x.side):=H.out.a.cell 11;go_upto_if 89 with fail
  go_cut [] (fun wx=>XW [(72,gx,x.C)] g 2 (p++lineW 1 [x.name] [32,123]++textL 2 (ifP 0 x)++textL 2 (ifP 1 x)++textL 2 (ifP 2 x)++textL 2 (ifP 3 x)++textL 2 (ifP 4 x)++textL 2 (ifP 5 x)++textL 2 (ifP 6 x)++textL 2 (ifP 7 x)) w wx)
  case first=>
   by_cases e1:x.side=1
   ·have E:textL 2 (ifP 7 x)=lineW 2 [[115,105,100,101],[105,110,115,105,100,101]] [59]:=by rw[show ifP 7 x=sideN x.side from rfl,e1];exact(zAz _ _).trans (zAn _ _)
    have hj:(lineW 2 [[115,105,100,101],[105,110,115,105,100,101]] [59]).length≤140737488355328:=(by rw[←E];have:=HM.out;simp only[yA]at this⊢;omega);rw[e1]at c11;have hb:=(Below.refl wc.heap.size wc).alloc (yI _) (.cells #[.string ⟨#[]⟩,.string ⟨#[105,110,115,105,100,101]⟩,.string ⟨#[111,117,116,115,105,100,101]⟩] 9);have H1:=hid (H.out.below hb);have c12:(wc.alloc (.cells #[.string ⟨#[]⟩,.string ⟨#[105,110,115,105,100,101]⟩,.string ⟨#[111,117,116,115,105,100,101]⟩] 9)).cell? ⟨gx,11,none⟩=some (.int .i64 1):=(hb.cell (World.block_lt_of_cell? _ _ c11)).trans c11;have c13:(wc.alloc (.cells #[.string ⟨#[]⟩,.string ⟨#[105,110,115,105,100,101]⟩,.string ⟨#[111,117,116,115,105,100,101]⟩] 9)).cell? ⟨wc.heap.size,1,none⟩=some (.string ⟨#[105,110,115,105,100,101]⟩):=zCy _ _ _ _;go_wp2_with (refine zAf rfl rfl rfl rfl (by simp[lineW,joinW]at hj⊢;omega) ?_);refine(rput H1.out [[115,105,100,101],[105,110,115,105,100,101]] (by first|(simp[joinW];done)|rfl) (by decide) (by rw[←E];have:=HM.out;simp only[yA]at this⊢;omega)).mono ?_;rintro e w2 ⟨rfl,h2⟩;have H2:=hid h2;clear h2 hb;go_wp2;go_meet;rw[E];exact H2.out
   by_cases e2:x.side=2
   ·have E:textL 2 (ifP 7 x)=lineW 2 [[115,105,100,101],[111,117,116,115,105,100,101]] [59]:=by rw[show ifP 7 x=sideN x.side from rfl,e2];exact(zAz _ _).trans (zAn _ _)
    have hj:(lineW 2 [[115,105,100,101],[111,117,116,115,105,100,101]] [59]).length≤140737488355328:=(by rw[←E];have:=HM.out;simp only[yA]at this⊢;omega);rw[e2]at c11;have hb:=(Below.refl wc.heap.size wc).alloc (yI _) (.cells #[.string ⟨#[]⟩,.string ⟨#[105,110,115,105,100,101]⟩,.string ⟨#[111,117,116,115,105,100,101]⟩] 9);have H1:=hid (H.out.below hb);have c12:(wc.alloc (.cells #[.string ⟨#[]⟩,.string ⟨#[105,110,115,105,100,101]⟩,.string ⟨#[111,117,116,115,105,100,101]⟩] 9)).cell? ⟨gx,11,none⟩=some (.int .i64 2):=(hb.cell (World.block_lt_of_cell? _ _ c11)).trans c11;have c13:(wc.alloc (.cells #[.string ⟨#[]⟩,.string ⟨#[105,110,115,105,100,101]⟩,.string ⟨#[111,117,116,115,105,100,101]⟩] 9)).cell? ⟨wc.heap.size,2,none⟩=some (.string ⟨#[111,117,116,115,105,100,101]⟩):=zCy _ _ _ _;go_wp2_with (refine zAf rfl rfl rfl rfl (by simp[lineW,joinW]at hj⊢;omega) ?_);refine(rput H1.out [[115,105,100,101],[111,117,116,115,105,100,101]] (by first|(simp[joinW];done)|rfl) (by decide) (by rw[←E];have:=HM.out;simp only[yA]at this⊢;omega)).mono ?_;rintro e w2 ⟨rfl,h2⟩;have H2:=hid h2;clear h2 hb;go_wp2;go_meet;rw[E];exact H2.out
   have e0:x.side=0:=by omega
   have E:textL 2 (ifP 7 x)=[]:=by rw[show ifP 7 x=sideN x.side from rfl,e0];rfl
   rw[e0]at c11;go_wp2;go_meet;rw[E,yF];exact H.out
  case rest=>
  clear H c11;have H:=hid hcut;clear hcut;go_wp2_with (refine zAf rfl rfl rfl rfl (by simp[lineW,joinW]at hj⊢;omega) ?_);refine(zFh H.out (by decide) (by have:=HM.out;simp only[yA]at this⊢;omega)).mono ?_;rintro e w6 ⟨rfl,h2⟩;have H6:=hid h2;clear h2;clear H;go_wp2;go_roundg (l.length - (k+1));case measure=>omega
  case rel=>
   refine⟨k+1,by omega,by go_num,hid ?_⟩;have:=H6.out.pop;rw[hp]at this;rw[ET.out,HN.out];simpa only[yE] using this
theorem wpolicies_any(g:Nat)(s:List UInt8)(r:Rt)(w:World)(B:Nat)(h:HasC 108 g (WC 0 s) w)(hB:B≤g)(hr:r.at w B)(hx:∀y∈r.maps,∀x∈y.clauses,zDg x=true)(hl:(s++textL 0 (r.maps.map mapN)).length≤140737488355328) :
  Calls Tryz.prog 46 #[.pointer (some ⟨g,0,none⟩),.agg r.C] w (WP g 0 s (textL 0 (r.maps.map mapN)) w):=by
 have HN:=hid hr.nmaps;have hln:r.maps.length≤9223372036854775807:=by have:=hr.hmaps.len;unfold maxLen at this;omega
 obtain⟨A,c,hve,-,-⟩:=hr.hmaps;have HV:=hid (hve ▸ hr.hmaps);have HE:=hid (congrArg some hve);have H0:Hid (XW [(41,w.heap.size,r.C)] g 0 s w (w.alloc (.cells r.C 41))):=hid ((XW.start h).new (HasC.new w _ _) ((Below.refl w.heap.size w).alloc (yI _) _));replace hx:=hid hx;replace hB:=hid hB;have HL:=hid hl;clear h hr hve hl;go_enter Tryz.func46,Tryz.ntmps46;go_upto_region 1 with fail
 generalize w.alloc (.cells r.C 41)=wa at H0⊢;generalize w.heap.size=gr at H0⊢;generalize r.maps=l at *;go_wp2;go_loopg [4,5,6] l.length (fun gh ix _ _ wr=>∃k:Nat,k+gh=l.length∧ix=.int .i64 k∧Hid (XW [(41,gr,r.C)] g 0 (s++textL 0 ((l.take k).map mapN)) w wr));case atStart=>exact⟨0,by omega,rfl,hid (by rw[List.take_zero,List.map_nil,textL,yF];exact H0.out)⟩
 case round=>
  clear H0;obtain⟨k,hk,rfl,HR⟩:=hrel;have cr:wr.cell? ⟨gr,4,none⟩=some (.slice A l.length c):=(HR.out.a.cell 4).trans HE.out;by_cases hlt:k<l.length;case neg=>
   have hkz:¬((k:Int)<(l.length:Int)):=by omega
   have E:=zBc 0 mapN hlt;go_wp2_with fail;go_end0;exact⟨rfl,by have:=HR.out.t;rwa [E]at this,HR.out.k⟩
  have hkz:(k:Int)<(l.length:Int):=by omega
  obtain⟨gq,oq,c', e',-,hgq,R0⟩:=SlV.elem (n:=2) (by decide) (fun _=>rfl) HV.out hlt;injection e' with e1 e2 e3
  subst e1 e3;have HX:=hid (hx.out _ (List.getElem_mem hlt));have HW:=hid (HN.out _ (List.getElem_mem hlt));have ET:=hid (zAu 0 mapN hlt);have HP:=hid (zAy 0 mapN hlt);generalize l[k]=y at HX HW ET HP R0;have hln2:y.clauses.length≤9223372036854775807:=by have:=SlV.len (show SlV w B 7 Cl.C y.v y.clauses from HW.out);unfold maxLen at this;omega
  obtain⟨A2,c2,hv2,-,-⟩:=HW.out;have HV2:Hid (SlV w B 7 Cl.C (.slice A2 y.clauses.length c2) y.clauses):=hid (hv2 ▸ HW.out);have HQ:Hid (∀L d t W,XW L g d t w W→W.cell? ⟨gq,oq+k*2,none⟩=some (.string (str y.name))∧W.cell? ⟨gq,oq+k*2+1,none⟩=some (.slice A2 y.clauses.length c2)):=hid fun L d t W hW=>have q:=zAg R0 (hW.low hB.out) hgq;⟨q 0 _ rfl,(q 1 _ rfl).trans (congrArg some hv2)⟩
  obtain⟨q0,q1⟩:=HQ.out _ _ _ _ HR.out;obtain⟨p,hp⟩:∃zz,zz=s++textL 0 ((l.take k).map mapN):=⟨_,rfl⟩;have HT:Hid (textN 0 (mapN y)=lineW 0 [[112,111,108,105,99,121],y.name] [32,123]++textL 1 (y.clauses.map clN)++lineW 0 [] [125]):=hid (by simp only[mapN,zBm]);have HM:Hid (p.length+(lineW 0 [[112,111,108,105,99,121],y.name] [32,123]++textL 1 (y.clauses.map clN)++lineW 0 [] [125]).length≤140737488355328):=hid (by rw[←HT.out,hp];have:=HL.out;have:=HP.out;simp only[yA]at *;omega);have hj:(lineW 0 [[112,111,108,105,99,121],y.name] [32,123]).length≤140737488355328:=by have:=HM.out;simp only[yA]at this⊢;omega
  rw[←hp]at HR;clear hv2 e2 R0 HW HP;go_wp2_with (refine zAf rfl rfl rfl rfl (by simp[lineW,joinW]at hj⊢;omega) ?_);refine(ropen HR.out [[112,111,108,105,99,121],y.name] (by first|(simp[joinW];done)|rfl) (by decide) (by have:=HM.out;simp only[yA]at this⊢;omega)).mono ?_;rintro e w2 ⟨rfl,h2⟩;have H2:=hid h2;clear h2 HR cr q0 q1 hj;go_wp2;go_loopg [5,6] y.clauses.length (fun gh ix _ wr=>∃i:Nat,i+gh=y.clauses.length∧ix=.int .i64 i∧Hid (XW [(41,gr,r.C)] g 1 (p++lineW 0 [[112,111,108,105,99,121],y.name] [32,123]++textL 1 ((y.clauses.take i).map clN)) w wr));case atStart=>exact⟨0,by omega,rfl,hid (by rw[List.take_zero,List.map_nil,textL,yF];exact H2.out)⟩
  case round=>
   clear H2;obtain⟨i,hi,rfl,HR⟩:=hrel;have cr:wr.cell? ⟨gr,4,none⟩=some (.slice (some ⟨gq,oq,none⟩) l.length c):=(HR.out.a.cell 4).trans HE.out;obtain⟨q0,q1⟩:=HQ.out _ _ _ _ HR.out;by_cases hlt2:i<y.clauses.length;case neg=>
    have hiz:¬((i:Int)<(y.clauses.length:Int)):=by omega
    have E:=zBc 1 clN hlt2;go_wp2_with fail;refine(zFh HR.out (by decide) (by rw[E];have:=HM.out;simp only[yA]at this⊢;omega)).mono ?_;rintro e w3 ⟨rfl,h3⟩;have R:=hid h3;clear h3;go_wp2;go_roundg (l.length - (k+1));case measure=>omega
    case rel=>
     refine⟨k+1,by omega,by go_num,hid ?_⟩;have:=R.out;rw[E,hp]at this;rw[ET.out,HT.out];simpa only[yE] using this
   have hiz:(i:Int)<(y.clauses.length:Int):=by omega
   obtain⟨gp,op,c3,e',-,hgp,R0⟩:=SlV.elem (n:=7) (by decide) (fun _=>rfl) HV2.out hlt2;injection e' with e1 e2 e3
   subst e1 e3;have r1:=hid (zAg R0 (HR.out.low hB.out) hgp);have HY:=hid (HX.out _ (List.getElem_mem hlt2));have EU:=hid (zAu 1 clN hlt2);have HP:=hid (zAy 1 clN hlt2);generalize y.clauses[i]=x at HY EU HP r1 R0;clear R0 e2;go_upto_region 9 with(first|(refine zAa rfl 138 _ rfl rfl r1.out Tryz.rowCl Tryz.sizeCl ?_)|(refine zAd rfl 138 _ _ rfl rfl rfl (HasC.new wr _ _) rfl Tryz.sizeCl (Cl.one x) ?_;intro w4 hz1 hz2))
   obtain⟨v,hv⟩:∃zz,zz=p++lineW 0 [[112,111,108,105,99,121],y.name] [32,123]++textL 1 ((y.clauses.take i).map clN):=⟨_,rfl⟩;have H4:Hid (XW [(138,wr.heap.size,x.C),(41,gr,r.C)] g 1 v w w4):=hid (by rw[hv];exact HR.out.new hz1 (zAi hz2));have HO:Hid (v.length+(textN 1 (clN x)).length≤140737488355328):=hid (by rw[hv];have:=HM.out;have:=HP.out;simp only[yA]at *;omega);clear hz1 hz2 r1 HR HP cr q0 q1 HM HX;generalize wr.heap.size=gx at H4⊢;have HU:Hid (textN 1 (clN x)=lineW 1 [[116,101,114,109]] [32,123]++(textL 2 (clP 0 x)++(textL 2 (clP 1 x)++(textL 2 (clP 2 x)++(textL 2 (clP 3 x)++(textL 2 (clP 4 x)++(textL 2 (clP 5 x)++(textL 2 (clP 6 x))))))))++lineW 1 [] [125]):=hid (by simp only[clN,clK,zBm,zBt]);rw[HU.out]at HO;obtain⟨k1,k2,k3,k4,k5⟩:=cl_ok HY.out;go_wp2_with (refine zAf rfl rfl rfl rfl (by simp[lineW,joinW]at hj⊢;omega) ?_);refine(ropen H4.out [[116,101,114,109]] (by first|(simp[joinW];done)|rfl) (by decide) (by have:=HO.out;simp only[yA]at this⊢;omega)).mono ?_;rintro e w5 ⟨rfl,h2⟩;have H5:=hid h2;clear h2;clear H4;have c1:w5.cell? ⟨gx,1,none⟩=some (.string (str x.list)):=H5.out.a.cell 1;go_upto_if 47 with fail
   go_cut [] (fun wx=>XW [(138,gx,x.C),(41,gr,r.C)] g 2 (v++lineW 1 [[116,101,114,109]] [32,123]++textL 2 (clP 0 x)) w wx)
   case first=>
    cases hc:(!x.list.isEmpty)with
    |true=>
     have E:textL 2 (clP 0 x)=lineW 2 [[102,114,111,109],[108,105,115,116],x.list] [59]:=zAq hc;have hj:(lineW 2 [[102,114,111,109],[108,105,115,116],x.list] [59]).length≤140737488355328:=(by rw[←E];have:=HO.out;simp only[yA]at this⊢;omega);have hs:=zEx hc;rw[hs];go_wp2_with (refine zAf rfl rfl rfl rfl (by simp[lineW,joinW]at hj⊢;omega) ?_);refine(rput H5.out [[102,114,111,109],[108,105,115,116],x.list] (by first|(simp[joinW];done)|rfl) (by decide) (by rw[←E];have:=HO.out;simp only[yA]at this⊢;omega)).mono ?_;rintro e w2 ⟨rfl,h2⟩;have H2:=hid h2;clear h2;go_wp2;go_meet;rw[E];exact H2.out
    |false=>
     have hs:=zEy hc;rw[hs];go_wp2;go_meet;rw[show textL 2 (clP 0 x)=[]from zAl hc,yF];exact H5.out
   case rest=>
   clear H5 c1;have H:=hid hcut;clear hcut;have c2:wc.cell? ⟨gx,2,none⟩=some (.int .i64 x.tag):=H.out.a.cell 2;go_upto_if 56 with fail
   go_cut [] (fun wx=>XW [(138,gx,x.C),(41,gr,r.C)] g 2 (v++lineW 1 [[116,101,114,109]] [32,123]++textL 2 (clP 0 x)++textL 2 (clP 1 x)) w wx)
   case first=>
    cases hc:(!(x.tag == -1))with
    |true=>
     have E:textL 2 (clP 1 x)=lineW 2 [[102,114,111,109],[116,97,103],decI x.tag] [59]:=zAq hc;have hj:(lineW 2 [[102,114,111,109],[116,97,103],decI x.tag] [59]).length≤140737488355328:=(by rw[←E];have:=HO.out;simp only[yA]at this⊢;omega);have hs:(x.tag != -1)=true:=hc;rw[hs];go_wp2_with (refine zAf rfl rfl rfl rfl (by simp[lineW,joinW]at hj⊢;omega) ?_);refine(zBy x.tag _ (by have:=m1_ne hc;omega) (by omega)).mono ?_;rintro e w1 ⟨rfl,rfl⟩;go_wp2_with (refine zAf rfl rfl rfl rfl (by simp[lineW,joinW]at hj⊢;omega) ?_);refine(rput H.out [[102,114,111,109],[116,97,103],decI x.tag] (by first|(simp[joinW];done)|rfl) (by decide) (by rw[←E];have:=HO.out;simp only[yA]at this⊢;omega)).mono ?_;rintro e w2 ⟨rfl,h2⟩;have H2:=hid h2;clear h2;go_wp2;go_meet;rw[E];exact H2.out
    |false=>
     have hs:(x.tag != -1)=false:=hc;rw[hs];go_wp2;go_meet;rw[show textL 2 (clP 1 x)=[]from zAl hc,yF];exact H.out
   case rest=>
   clear H c2;have H:=hid hcut;clear hcut;have c3:wc.cell? ⟨gx,3,none⟩=some (.int .i64 x.setM):=H.out.a.cell 3;go_upto_if 66 with fail
   go_cut [] (fun wx=>XW [(138,gx,x.C),(41,gr,r.C)] g 2 (v++lineW 1 [[116,101,114,109]] [32,123]++textL 2 (clP 0 x)++textL 2 (clP 1 x)++textL 2 (clP 2 x)) w wx)
   case first=>
    cases hc:(!(x.setM == -1))with
    |true=>
     have E:textL 2 (clP 2 x)=lineW 2 [[116,104,101,110],[109,101,116,114,105,99],decI x.setM] [59]:=zAq hc;have hj:(lineW 2 [[116,104,101,110],[109,101,116,114,105,99],decI x.setM] [59]).length≤140737488355328:=(by rw[←E];have:=HO.out;simp only[yA]at this⊢;omega);have hs:(x.setM != -1)=true:=hc;rw[hs];go_wp2_with (refine zAf rfl rfl rfl rfl (by simp[lineW,joinW]at hj⊢;omega) ?_);refine(zBy x.setM _ (by have:=m1_ne hc;omega) (by omega)).mono ?_;rintro e w1 ⟨rfl,rfl⟩;go_wp2_with (refine zAf rfl rfl rfl rfl (by simp[lineW,joinW]at hj⊢;omega) ?_);refine(rput H.out [[116,104,101,110],[109,101,116,114,105,99],decI x.setM] (by first|(simp[joinW];done)|rfl) (by decide) (by rw[←E];have:=HO.out;simp only[yA]at this⊢;omega)).mono ?_;rintro e w2 ⟨rfl,h2⟩;have H2:=hid h2;clear h2;go_wp2;go_meet;rw[E];exact H2.out
    |false=>
     have hs:(x.setM != -1)=false:=hc;rw[hs];go_wp2;go_meet;rw[show textL 2 (clP 2 x)=[]from zAl hc,yF];exact H.out
   case rest=>
   clear H c3;have H:=hid hcut;clear hcut;have c4:wc.cell? ⟨gx,4,none⟩=some (.int .i64 x.setT):=H.out.a.cell 4;go_upto_if 76 with fail
   go_cut [] (fun wx=>XW [(138,gx,x.C),(41,gr,r.C)] g 2 (v++lineW 1 [[116,101,114,109]] [32,123]++textL 2 (clP 0 x)++textL 2 (clP 1 x)++textL 2 (clP 2 x)++textL 2 (clP 3 x)) w wx)
   case first=>
    cases hc:(!(x.setT == -1))with
    |true=>
     have E:textL 2 (clP 3 x)=lineW 2 [[116,104,101,110],[116,97,103],decI x.setT] [59]:=zAq hc;have hj:(lineW 2 [[116,104,101,110],[116,97,103],decI x.setT] [59]).length≤140737488355328:=(by rw[←E];have:=HO.out;simp only[yA]at this⊢;omega);have hs:(x.setT != -1)=true:=hc;rw[hs];go_wp2_with (refine zAf rfl rfl rfl rfl (by simp[lineW,joinW]at hj⊢;omega) ?_);refine(zBy x.setT _ (by have:=m1_ne hc;omega) (by omega)).mono ?_;rintro e w1 ⟨rfl,rfl⟩;go_wp2_with (refine zAf rfl rfl rfl rfl (by simp[lineW,joinW]at hj⊢;omega) ?_);refine(rput H.out [[116,104,101,110],[116,97,103],decI x.setT] (by first|(simp[joinW];done)|rfl) (by decide) (by rw[←E];have:=HO.out;simp only[yA]at this⊢;omega)).mono ?_;rintro e w2 ⟨rfl,h2⟩;have H2:=hid h2;clear h2;go_wp2;go_meet;rw[E];exact H2.out
    |false=>
     have hs:(x.setT != -1)=false:=hc;rw[hs];go_wp2;go_meet;rw[show textL 2 (clP 3 x)=[]from zAl hc,yF];exact H.out
   case rest=>
   clear H c4;have H:=hid hcut;clear hcut;have c5:wc.cell? ⟨gx,5,none⟩=some (.int .i64 x.setP):=H.out.a.cell 5;go_upto_if 86 with fail
   go_cut [] (fun wx=>XW [(138,gx,x.C),(41,gr,r.C)] g 2 (v++lineW 1 [[116,101,114,109]] [32,123]++textL 2 (clP 0 x)++textL 2 (clP 1 x)++textL 2 (clP 2 x)++textL 2 (clP 3 x)++textL 2 (clP 4 x)) w wx)
   case first=>
    cases hc:(!(x.setP == -1))with
    |true=>
     have E:textL 2 (clP 4 x)=lineW 2 [[116,104,101,110],[112,114,101,102,101,114,101,110,99,101],decI x.setP] [59]:=zAq hc;have hj:(lineW 2 [[116,104,101,110],[112,114,101,102,101,114,101,110,99,101],decI x.setP] [59]).length≤140737488355328:=(by rw[←E];have:=HO.out;simp only[yA]at this⊢;omega);have hs:(x.setP != -1)=true:=hc;rw[hs];go_wp2_with (refine zAf rfl rfl rfl rfl (by simp[lineW,joinW]at hj⊢;omega) ?_);refine(zBy x.setP _ (by have:=m1_ne hc;omega) (by omega)).mono ?_;rintro e w1 ⟨rfl,rfl⟩;go_wp2_with (refine zAf rfl rfl rfl rfl (by simp[lineW,joinW]at hj⊢;omega) ?_);refine(rput H.out [[116,104,101,110],[112,114,101,102,101,114,101,110,99,101],decI x.setP] (by first|(simp[joinW];done)|rfl) (by decide) (by rw[←E];have:=HO.out;simp only[yA]at this⊢;omega)).mono ?_;rintro e w2 ⟨rfl,h2⟩;have H2:=hid h2;clear h2;go_wp2;go_meet;rw[E];exact H2.out
    |false=>
     have hs:(x.setP != -1)=false:=hc;rw[hs];go_wp2;go_meet;rw[show textL 2 (clP 4 x)=[]from zAl hc,yF];exact H.out
   case rest=>
   clear H c5;have H:=hid hcut;clear hcut;have c6:wc.cell? ⟨gx,6,none⟩=some (.int .i64 x.prep):=H.out.a.cell 6;go_upto_if 96 with fail
   go_cut [] (fun wx=>XW [(138,gx,x.C),(41,gr,r.C)] g 2 (v++lineW 1 [[116,101,114,109]] [32,123]++textL 2 (clP 0 x)++textL 2 (clP 1 x)++textL 2 (clP 2 x)++textL 2 (clP 3 x)++textL 2 (clP 4 x)++textL 2 (clP 5 x)) w wx)
   case first=>
    cases hc:(!(x.prep==0))with
    |true=>
     have E:textL 2 (clP 5 x)=lineW 2 [[116,104,101,110],[112,114,101,112,101,110,100],decI x.prep] [59]:=zAq hc;have hj:(lineW 2 [[116,104,101,110],[112,114,101,112,101,110,100],decI x.prep] [59]).length≤140737488355328:=(by rw[←E];have:=HO.out;simp only[yA]at this⊢;omega);have hs:(x.prep != 0)=true:=hc;rw[hs];go_wp2_with (refine zAf rfl rfl rfl rfl (by simp[lineW,joinW]at hj⊢;omega) ?_);refine(zBy x.prep _ (by have:=ne_of hc;omega) (by omega)).mono ?_;rintro e w1 ⟨rfl,rfl⟩;go_wp2_with (refine zAf rfl rfl rfl rfl (by simp[lineW,joinW]at hj⊢;omega) ?_);refine(rput H.out [[116,104,101,110],[112,114,101,112,101,110,100],decI x.prep] (by first|(simp[joinW];done)|rfl) (by decide) (by rw[←E];have:=HO.out;simp only[yA]at this⊢;omega)).mono ?_;rintro e w2 ⟨rfl,h2⟩;have H2:=hid h2;clear h2;go_wp2;go_meet;rw[E];exact H2.out
    |false=>
     have hs:(x.prep != 0)=false:=hc;rw[hs];go_wp2;go_meet;rw[show textL 2 (clP 5 x)=[]from zAl hc,yF];exact H.out
   case rest=>
   clear H c6;have H:=hid hcut;clear hcut;have c0:wc.cell? ⟨gx,0,none⟩=some (.bool x.permit):=H.out.a.cell 0;go_upto_if 105 with fail
   go_cut [] (fun wx=>XW [(138,gx,x.C),(41,gr,r.C)] g 2 (v++lineW 1 [[116,101,114,109]] [32,123]++textL 2 (clP 0 x)++textL 2 (clP 1 x)++textL 2 (clP 2 x)++textL 2 (clP 3 x)++textL 2 (clP 4 x)++textL 2 (clP 5 x)++textL 2 (clP 6 x)) w wx)
   case first=>
    cases hc:(x.permit)with
    |true=>
     have E:textL 2 (clP 6 x)=lineW 2 [[97,99,99,101,112,116]] [59]:=by rw[show clP 6 x=[stn [if x.permit then [97,99,99,101,112,116]else [114,101,106,101,99,116]]]from rfl,hc,zAz,zAn];rfl
     try rw[hc]at c0
     go_wp2_with fail;refine(rput H.out [[97,99,99,101,112,116]] (by first|(simp[joinW];done)|rfl) (by decide) (by rw[←E];have:=HO.out;simp only[yA]at this⊢;omega)).mono ?_;rintro e w2 ⟨rfl,h2⟩;have H2:=hid h2;clear h2;go_wp2;go_meet;rw[E];exact H2.out
    |false=>
     have E:textL 2 (clP 6 x)=lineW 2 [[114,101,106,101,99,116]] [59]:=by rw[show clP 6 x=[stn [if x.permit then [97,99,99,101,112,116]else [114,101,106,101,99,116]]]from rfl,hc,zAz,zAn];rfl
     try rw[hc]at c0
     go_wp2_with fail;refine(rput H.out [[114,101,106,101,99,116]] (by first|(simp[joinW];done)|rfl) (by decide) (by rw[←E];have:=HO.out;simp only[yA]at this⊢;omega)).mono ?_;rintro e w2 ⟨rfl,h2⟩;have H2:=hid h2;clear h2;go_wp2;go_meet;rw[E];exact H2.out
   case rest=>
   clear H c0;have H:=hid hcut;clear hcut;go_wp2_with (refine zAf rfl rfl rfl rfl (by simp[lineW,joinW]at hj⊢;omega) ?_);refine(zFh H.out (by decide) (by have:=HO.out;simp only[yA]at this⊢;omega)).mono ?_;rintro e w6 ⟨rfl,h2⟩;have H6:=hid h2;clear h2;clear H;go_wp2;go_roundg (y.clauses.length - (i+1));case measure=>omega
   case rel=>
    refine⟨i+1,by omega,by go_num,hid ?_⟩;have:=H6.out.pop;rw[hv]at this;rw[EU.out,HU.out];simpa only[yE] using this
def patW(a m:Nat):List UInt8:=if m=4294967295 then [97,110,121]else wildW a m
theorem patW_any{a m:Nat}(ha:a<4294967296)(hm:m<4294967296)(h:a &&& m=0):((str (patW a m)).toList==[97,110,121])=(m==4294967295):=by
 rw[zAh,Bool.eq_iff_iff,beq_iff_eq,beq_iff_eq];unfold patW;split
 ·rename_i e;simp[e]
 ·rename_i e
  refine⟨fun q=>?_,fun q=>absurd q e⟩;have:=(wild_back ha hm h).1;rw[q]at this;have t:=Option.some.inj ((show wildA [97,110,121]=some (0,4294967295)from rfl).symm.trans this);exact(congrArg Prod.snd t).symm
theorem rfull_known(lo hi:Int)(b:Bool)(w:World)(h:(lo==0&&hi==65535)=b):Calls Tryz.prog 116 #[.agg #[.int .i64 lo,.int .i64 hi]] w fun e w' => e=.returned (.bool b)∧Below w.heap.size w w' := h ▸ rfull_any lo hi w
theorem rpat_both(a m:Nat)(w:World)(ha:a<4294967296)(hm:m<4294967296):Calls Tryz.prog 115 #[.agg #[.int .u32 (a:Int),.int .u32 (m:Int)]] w fun e w' => e=.returned (.string (str (patW a m)))∧Below w.heap.size w w' := by
 unfold patW;split
 ·rename_i e;exact rpat_full a m w e
 ·rename_i e;exact rpat_any a m w ha hm e
theorem wfilters_any(g:Nat)(s:List UInt8)(r:Rt)(w:World)(B:Nat)(h:HasC 108 g (WC 0 s) w)(hB:B≤g)(hr:r.at w B)(hx:∀y∈r.acls,∀x∈y.rules,zDl x=true∧x.fit)(hl:(s++textL 0 (r.acls.map aclN)).length≤140737488355328) :
  Calls Tryz.prog 47 #[.pointer (some ⟨g,0,none⟩),.agg r.C] w (WP g 0 s (textL 0 (r.acls.map aclN)) w):=by
 have HN:=hid hr.nacls;have hln:r.acls.length≤9223372036854775807:=by have:=hr.hacls.len;unfold maxLen at this;omega
 obtain⟨A,c,hve,-,-⟩:=hr.hacls;have HV:=hid (hve ▸ hr.hacls);have HE:=hid (congrArg some hve);have H0:Hid (XW [(41,w.heap.size,r.C)] g 0 s w (w.alloc (.cells r.C 41))):=hid ((XW.start h).new (HasC.new w _ _) ((Below.refl w.heap.size w).alloc (yI _) _));replace hx:=hid hx;replace hB:=hid hB;have HL:=hid hl;clear h hr hve hl;go_enter Tryz.func47,Tryz.ntmps47;go_upto_region 1 with fail
 generalize w.alloc (.cells r.C 41)=wa at H0⊢;generalize w.heap.size=gr at H0⊢;generalize r.acls=l at *;go_wp2;go_loopg [4,5,6] l.length (fun gh ix _ _ wr=>∃k:Nat,k+gh=l.length∧ix=.int .i64 k∧Hid (XW [(41,gr,r.C)] g 0 (s++textL 0 ((l.take k).map aclN)) w wr));case atStart=>exact⟨0,by omega,rfl,hid (by rw[List.take_zero,List.map_nil,textL,yF];exact H0.out)⟩
 case round=>
  clear H0;obtain⟨k,hk,rfl,HR⟩:=hrel;have cr:wr.cell? ⟨gr,5,none⟩=some (.slice A l.length c):=(HR.out.a.cell 5).trans HE.out;by_cases hlt:k<l.length;case neg=>
   have hkz:¬((k:Int)<(l.length:Int)):=by omega
   have E:=zBc 0 aclN hlt;go_wp2_with fail;go_end0;exact⟨rfl,by have:=HR.out.t;rwa [E]at this,HR.out.k⟩
  have hkz:(k:Int)<(l.length:Int):=by omega
  obtain⟨gq,oq,c', e',-,hgq,R0⟩:=SlV.elem (n:=2) (by decide) (fun _=>rfl) HV.out hlt;injection e' with e1 e2 e3
  subst e1 e3;have HX:=hid (hx.out _ (List.getElem_mem hlt));have HW:=hid (HN.out _ (List.getElem_mem hlt));have ET:=hid (zAu 0 aclN hlt);have HP:=hid (zAy 0 aclN hlt);generalize l[k]=y at HX HW ET HP R0;have hln2:y.rules.length≤9223372036854775807:=by have:=SlV.len (show SlV w B 10 Ru.C y.v y.rules from HW.out);unfold maxLen at this;omega
  obtain⟨A2,c2,hv2,-,-⟩:=HW.out;have HV2:Hid (SlV w B 10 Ru.C (.slice A2 y.rules.length c2) y.rules):=hid (hv2 ▸ HW.out);have HQ:Hid (∀L d t W,XW L g d t w W→W.cell? ⟨gq,oq+k*2,none⟩=some (.string (str y.name))∧W.cell? ⟨gq,oq+k*2+1,none⟩=some (.slice A2 y.rules.length c2)):=hid fun L d t W hW=>have q:=zAg R0 (hW.low hB.out) hgq;⟨q 0 _ rfl,(q 1 _ rfl).trans (congrArg some hv2)⟩
  obtain⟨q0,q1⟩:=HQ.out _ _ _ _ HR.out;obtain⟨p,hp⟩:∃zz,zz=s++textL 0 ((l.take k).map aclN):=⟨_,rfl⟩;have HT:Hid (textN 0 (aclN y)=lineW 0 [[102,105,108,116,101,114],y.name] [32,123]++textL 1 (y.rules.map ruN)++lineW 0 [] [125]):=hid (by simp only[aclN,zBm]);have HM:Hid (p.length+(lineW 0 [[102,105,108,116,101,114],y.name] [32,123]++textL 1 (y.rules.map ruN)++lineW 0 [] [125]).length≤140737488355328):=hid (by rw[←HT.out,hp];have:=HL.out;have:=HP.out;simp only[yA]at *;omega);have hj:(lineW 0 [[102,105,108,116,101,114],y.name] [32,123]).length≤140737488355328:=by have:=HM.out;simp only[yA]at this⊢;omega
  rw[←hp]at HR;clear hv2 e2 R0 HW HP;go_wp2_with (refine zAf rfl rfl rfl rfl (by simp[lineW,joinW]at hj⊢;omega) ?_);refine(ropen HR.out [[102,105,108,116,101,114],y.name] (by first|(simp[joinW];done)|rfl) (by decide) (by have:=HM.out;simp only[yA]at this⊢;omega)).mono ?_;rintro e w2 ⟨rfl,h2⟩;have H2:=hid h2;clear h2 HR cr q0 q1 hj;go_wp2;go_loopg [5,6] y.rules.length (fun gh ix _ wr=>∃i:Nat,i+gh=y.rules.length∧ix=.int .i64 i∧Hid (XW [(41,gr,r.C)] g 1 (p++lineW 0 [[102,105,108,116,101,114],y.name] [32,123]++textL 1 ((y.rules.take i).map ruN)) w wr));case atStart=>exact⟨0,by omega,rfl,hid (by rw[List.take_zero,List.map_nil,textL,yF];exact H2.out)⟩
  case round=>
   clear H2;obtain⟨i,hi,rfl,HR⟩:=hrel;have cr:wr.cell? ⟨gr,5,none⟩=some (.slice (some ⟨gq,oq,none⟩) l.length c):=(HR.out.a.cell 5).trans HE.out;obtain⟨q0,q1⟩:=HQ.out _ _ _ _ HR.out;by_cases hlt2:i<y.rules.length;case neg=>
    have hiz:¬((i:Int)<(y.rules.length:Int)):=by omega
    have E:=zBc 1 ruN hlt2;go_wp2_with fail;refine(zFh HR.out (by decide) (by rw[E];have:=HM.out;simp only[yA]at this⊢;omega)).mono ?_;rintro e w3 ⟨rfl,h3⟩;have R:=hid h3;clear h3;go_wp2;go_roundg (l.length - (k+1));case measure=>omega
    case rel=>
     refine⟨k+1,by omega,by go_num,hid ?_⟩;have:=R.out;rw[E,hp]at this;rw[ET.out,HT.out];simpa only[yE] using this
   have hiz:(i:Int)<(y.rules.length:Int):=by omega
   obtain⟨gp,op,c3,e',-,hgp,R0⟩:=SlV.elem (n:=10) (by decide) (fun _=>rfl) HV2.out hlt2;injection e' with e1 e2 e3
   subst e1 e3;have r1:=hid (zAg R0 (HR.out.low hB.out) hgp);have HY:=hid (HX.out _ (List.getElem_mem hlt2));have EU:=hid (zAu 1 ruN hlt2);have HP:=hid (zAy 1 ruN hlt2);generalize y.rules[i]=x at HY EU HP r1 R0;clear R0 e2;go_upto_region 9 with(first|(refine zAa rfl 144 _ rfl rfl r1.out Tryz.rowRu Tryz.sizeRu ?_)|(refine zAd rfl 144 _ _ rfl rfl rfl (HasC.new wr _ _) rfl Tryz.sizeRu (Ru.one x) ?_;intro w4 hz1 hz2))
   obtain⟨v,hv⟩:∃zz,zz=p++lineW 0 [[102,105,108,116,101,114],y.name] [32,123]++textL 1 ((y.rules.take i).map ruN):=⟨_,rfl⟩;have H4:Hid (XW [(144,wr.heap.size,x.C),(41,gr,r.C)] g 1 v w w4):=hid (by rw[hv];exact HR.out.new hz1 (zAi hz2));have HO:Hid (v.length+(textN 1 (ruN x)).length≤140737488355328):=hid (by rw[hv];have:=HM.out;have:=HP.out;simp only[yA]at *;omega);clear hz1 hz2 r1 HR HP cr q0 q1 HM HX;generalize wr.heap.size=gx at H4⊢;have HU:Hid (textN 1 (ruN x)=lineW 1 [[116,101,114,109]] [32,123]++(textL 2 (ruP 0 x)++(textL 2 (ruP 1 x)++(textL 2 (ruP 2 x)++(textL 2 (ruP 3 x)++(textL 2 (ruP 4 x)++(textL 2 (ruP 5 x)))))))++lineW 1 [] [125]):=hid (by simp only[ruN,ruK,zBm,zBt]);rw[HU.out]at HO;obtain⟨k1,k2,k3,k4,k5⟩:=ru_ok HY.out.1;obtain⟨f1,f2,f3,f4⟩:=HY.out.2;go_wp2_with (refine zAf rfl rfl rfl rfl (by simp[lineW,joinW]at hj⊢;omega) ?_);refine(ropen H4.out [[116,101,114,109]] (by first|(simp[joinW];done)|rfl) (by decide) (by have:=HO.out;simp only[yA]at this⊢;omega)).mono ?_;rintro e w5 ⟨rfl,h2⟩;have H5:=hid h2;clear h2;clear H4;have c1:w5.cell? ⟨gx,1,none⟩=some (.int .i64 x.proto):=H5.out.a.cell 1;go_upto_if 47 with fail
   go_cut [] (fun wx=>XW [(144,gx,x.C),(41,gr,r.C)] g 2 (v++lineW 1 [[116,101,114,109]] [32,123]++textL 2 (ruP 0 x)) w wx)
   case first=>
    cases hc:(!(x.proto == -1))with
    |true=>
     have E:textL 2 (ruP 0 x)=lineW 2 [[112,114,111,116,111,99,111,108],protW x.proto] [59]:=zAq hc;have hj:(lineW 2 [[112,114,111,116,111,99,111,108],protW x.proto] [59]).length≤140737488355328:=(by rw[←E];have:=HO.out;simp only[yA]at this⊢;omega);have hs:(x.proto != -1)=true:=hc;rw[hs];go_wp2_with (refine zAf rfl rfl rfl rfl (by simp[lineW,joinW]at hj⊢;omega) ?_);refine(rtrans_any x.proto _ (by have:=m1_ne hc;omega) (by omega)).mono ?_;rintro e w1 ⟨rfl,rfl⟩;go_wp2_with (refine zAf rfl rfl rfl rfl (by simp[lineW,joinW]at hj⊢;omega) ?_);refine(rput H5.out [[112,114,111,116,111,99,111,108],protW x.proto] (by first|(simp[joinW];done)|rfl) (by decide) (by rw[←E];have:=HO.out;simp only[yA]at this⊢;omega)).mono ?_;rintro e w2 ⟨rfl,h2⟩;have H2:=hid h2;clear h2;go_wp2;go_meet;rw[E];exact H2.out
    |false=>
     have hs:(x.proto != -1)=false:=hc;rw[hs];go_wp2;go_meet;rw[show textL 2 (ruP 0 x)=[]from zAl hc,yF];exact H5.out
   case rest=>
   clear H5 c1;have H:=hid hcut;clear hcut;have c2:wc.cell? ⟨gx,2,none⟩=some (.int .u32 (x.sa:Int)):=H.out.a.cell 2;have c3:wc.cell? ⟨gx,3,none⟩=some (.int .u32 (x.sm:Int)):=H.out.a.cell 3;go_wp2_with fail;refine(rpat_both x.sa x.sm _ f1 f2).mono ?_;rintro e w9 ⟨rfl,hb⟩;have H9:=hid (H.out.below hb);clear hb H c2 c3;have q1:=patW_any f1 f2 k2;have c2:w9.cell? ⟨gx,2,none⟩=some (.int .u32 (x.sa:Int)):=H9.out.a.cell 2;have c3:w9.cell? ⟨gx,3,none⟩=some (.int .u32 (x.sm:Int)):=H9.out.a.cell 3;go_upto_if 58 with fail
   go_cut [] (fun wx=>XW [(144,gx,x.C),(41,gr,r.C)] g 2 (v++lineW 1 [[116,101,114,109]] [32,123]++textL 2 (ruP 0 x)++textL 2 (ruP 1 x)) w wx)
   case first=>
    cases hc:(!(x.sm==4294967295))with
    |true=>
     have E:textL 2 (ruP 1 x)=lineW 2 [[115,111,117,114,99,101],wildW x.sa x.sm] [59]:=zAq hc;have hj:(lineW 2 [[115,111,117,114,99,101],wildW x.sa x.sm] [59]).length≤140737488355328:=(by rw[←E];have:=HO.out;simp only[yA]at this⊢;omega);go_wp2_with (refine zAf rfl rfl rfl rfl (by simp[lineW,joinW]at hj⊢;omega) ?_);refine(rpat_any x.sa x.sm _ f1 f2 (by simpa using hc)).mono ?_;rintro e w1 ⟨rfl,hb⟩;have H1:=hid (H9.out.below hb);clear hb;go_wp2_with (refine zAf rfl rfl rfl rfl (by simp[lineW,joinW]at hj⊢;omega) ?_);refine(rput H1.out [[115,111,117,114,99,101],wildW x.sa x.sm] (by first|(simp[joinW];done)|rfl) (by decide) (by rw[←E];have:=HO.out;simp only[yA]at this⊢;omega)).mono ?_;rintro e w2 ⟨rfl,h2⟩;have H2:=hid h2;clear h2;go_wp2;go_meet;rw[E];exact H2.out
    |false=>
     go_wp2;go_meet;rw[show textL 2 (ruP 1 x)=[]from zAl hc,yF];exact H9.out
   case rest=>
   clear H9 c2 c3;have H:=hid hcut;clear hcut;have c4:wc.cell? ⟨gx,4,none⟩=some (.int .u32 (x.da:Int)):=H.out.a.cell 4;have c5:wc.cell? ⟨gx,5,none⟩=some (.int .u32 (x.dm:Int)):=H.out.a.cell 5;go_wp2_with fail;refine(rpat_both x.da x.dm _ f3 f4).mono ?_;rintro e w9 ⟨rfl,hb⟩;have H9:=hid (H.out.below hb);clear hb H c4 c5;have q2:=patW_any f3 f4 k3;have c4:w9.cell? ⟨gx,4,none⟩=some (.int .u32 (x.da:Int)):=H9.out.a.cell 4;have c5:w9.cell? ⟨gx,5,none⟩=some (.int .u32 (x.dm:Int)):=H9.out.a.cell 5;go_upto_if 69 with fail
   go_cut [] (fun wx=>XW [(144,gx,x.C),(41,gr,r.C)] g 2 (v++lineW 1 [[116,101,114,109]] [32,123]++textL 2 (ruP 0 x)++textL 2 (ruP 1 x)++textL 2 (ruP 2 x)) w wx)
   case first=>
    cases hc:(!(x.dm==4294967295))with
    |true=>
     have E:textL 2 (ruP 2 x)=lineW 2 [[100,101,115,116,105,110,97,116,105,111,110],wildW x.da x.dm] [59]:=zAq hc;have hj:(lineW 2 [[100,101,115,116,105,110,97,116,105,111,110],wildW x.da x.dm] [59]).length≤140737488355328:=(by rw[←E];have:=HO.out;simp only[yA]at this⊢;omega);go_wp2_with (refine zAf rfl rfl rfl rfl (by simp[lineW,joinW]at hj⊢;omega) ?_);refine(rpat_any x.da x.dm _ f3 f4 (by simpa using hc)).mono ?_;rintro e w1 ⟨rfl,hb⟩;have H1:=hid (H9.out.below hb);clear hb;go_wp2_with (refine zAf rfl rfl rfl rfl (by simp[lineW,joinW]at hj⊢;omega) ?_);refine(rput H1.out [[100,101,115,116,105,110,97,116,105,111,110],wildW x.da x.dm] (by first|(simp[joinW];done)|rfl) (by decide) (by rw[←E];have:=HO.out;simp only[yA]at this⊢;omega)).mono ?_;rintro e w2 ⟨rfl,h2⟩;have H2:=hid h2;clear h2;go_wp2;go_meet;rw[E];exact H2.out
    |false=>
     go_wp2;go_meet;rw[show textL 2 (ruP 2 x)=[]from zAl hc,yF];exact H9.out
   case rest=>
   clear H9 c4 c5;have H:=hid hcut;clear hcut;obtain⟨b3,hb3⟩:∃b,(x.slo==0&&x.shi==65535)=b:=⟨_,rfl⟩;have c6:wc.cell? ⟨gx,6,none⟩=some (.int .i64 x.slo):=H.out.a.cell 6;have c7:wc.cell? ⟨gx,7,none⟩=some (.int .i64 x.shi):=H.out.a.cell 7;go_wp2_with fail;refine(rfull_known x.slo x.shi b3 _ hb3).mono ?_;rintro e w9 ⟨rfl,hb⟩;have H9:=hid (H.out.below hb);clear hb H c6 c7;have c6:w9.cell? ⟨gx,6,none⟩=some (.int .i64 x.slo):=H9.out.a.cell 6;have c7:w9.cell? ⟨gx,7,none⟩=some (.int .i64 x.shi):=H9.out.a.cell 7;go_upto_if 80 with fail
   go_cut [] (fun wx=>XW [(144,gx,x.C),(41,gr,r.C)] g 2 (v++lineW 1 [[116,101,114,109]] [32,123]++textL 2 (ruP 0 x)++textL 2 (ruP 1 x)++textL 2 (ruP 2 x)++textL 2 (ruP 3 x)) w wx)
   case first=>
    cases hc:(!b3)with
    |true=>
     have E:textL 2 (ruP 3 x)=lineW 2 [[115,111,117,114,99,101,45,112,111,114,116],portW x.slo x.shi] [59]:=zAq (by rw[hb3];exact hc);have hj:(lineW 2 [[115,111,117,114,99,101,45,112,111,114,116],portW x.slo x.shi] [59]).length≤140737488355328:=(by rw[←E];have:=HO.out;simp only[yA]at this⊢;omega);go_wp2_with (refine zAf rfl rfl rfl rfl (by simp[lineW,joinW]at hj⊢;omega) ?_);refine(rportT_any x.slo x.shi _ k4.1 k4.2.1 k4.2.2).mono ?_;rintro e w1 ⟨rfl,hb⟩;have H1:=hid (H9.out.below hb);clear hb;go_wp2_with (refine zAf rfl rfl rfl rfl (by simp[lineW,joinW]at hj⊢;omega) ?_);refine(rput H1.out [[115,111,117,114,99,101,45,112,111,114,116],portW x.slo x.shi] (by first|(simp[joinW];done)|rfl) (by decide) (by rw[←E];have:=HO.out;simp only[yA]at this⊢;omega)).mono ?_;rintro e w2 ⟨rfl,h2⟩;have H2:=hid h2;clear h2;go_wp2;go_meet;rw[E];exact H2.out
    |false=>
     go_wp2;go_meet;rw[show textL 2 (ruP 3 x)=[]from zAl (by rw[hb3];exact hc),yF];exact H9.out
   case rest=>
   clear H9 c6 c7;have H:=hid hcut;clear hcut;obtain⟨b4,hb4⟩:∃b,(x.dlo==0&&x.dhi==65535)=b:=⟨_,rfl⟩;have c8:wc.cell? ⟨gx,8,none⟩=some (.int .i64 x.dlo):=H.out.a.cell 8;have c9:wc.cell? ⟨gx,9,none⟩=some (.int .i64 x.dhi):=H.out.a.cell 9;go_wp2_with fail;refine(rfull_known x.dlo x.dhi b4 _ hb4).mono ?_;rintro e w9 ⟨rfl,hb⟩;have H9:=hid (H.out.below hb);clear hb H c8 c9;have c8:w9.cell? ⟨gx,8,none⟩=some (.int .i64 x.dlo):=H9.out.a.cell 8;have c9:w9.cell? ⟨gx,9,none⟩=some (.int .i64 x.dhi):=H9.out.a.cell 9;go_upto_if 91 with fail
   go_cut [] (fun wx=>XW [(144,gx,x.C),(41,gr,r.C)] g 2 (v++lineW 1 [[116,101,114,109]] [32,123]++textL 2 (ruP 0 x)++textL 2 (ruP 1 x)++textL 2 (ruP 2 x)++textL 2 (ruP 3 x)++textL 2 (ruP 4 x)) w wx)
   case first=>
    cases hc:(!b4)with
    |true=>
     have E:textL 2 (ruP 4 x)=lineW 2 [[100,101,115,116,105,110,97,116,105,111,110,45,112,111,114,116],portW x.dlo x.dhi] [59]:=zAq (by rw[hb4];exact hc);have hj:(lineW 2 [[100,101,115,116,105,110,97,116,105,111,110,45,112,111,114,116],portW x.dlo x.dhi] [59]).length≤140737488355328:=(by rw[←E];have:=HO.out;simp only[yA]at this⊢;omega);go_wp2_with (refine zAf rfl rfl rfl rfl (by simp[lineW,joinW]at hj⊢;omega) ?_);refine(rportT_any x.dlo x.dhi _ k5.1 k5.2.1 k5.2.2).mono ?_;rintro e w1 ⟨rfl,hb⟩;have H1:=hid (H9.out.below hb);clear hb;go_wp2_with (refine zAf rfl rfl rfl rfl (by simp[lineW,joinW]at hj⊢;omega) ?_);refine(rput H1.out [[100,101,115,116,105,110,97,116,105,111,110,45,112,111,114,116],portW x.dlo x.dhi] (by first|(simp[joinW];done)|rfl) (by decide) (by rw[←E];have:=HO.out;simp only[yA]at this⊢;omega)).mono ?_;rintro e w2 ⟨rfl,h2⟩;have H2:=hid h2;clear h2;go_wp2;go_meet;rw[E];exact H2.out
    |false=>
     go_wp2;go_meet;rw[show textL 2 (ruP 4 x)=[]from zAl (by rw[hb4];exact hc),yF];exact H9.out
   case rest=>
   clear H9 c8 c9;have H:=hid hcut;clear hcut;have c0:wc.cell? ⟨gx,0,none⟩=some (.bool x.permit):=H.out.a.cell 0;go_upto_if 100 with fail
   go_cut [] (fun wx=>XW [(144,gx,x.C),(41,gr,r.C)] g 2 (v++lineW 1 [[116,101,114,109]] [32,123]++textL 2 (ruP 0 x)++textL 2 (ruP 1 x)++textL 2 (ruP 2 x)++textL 2 (ruP 3 x)++textL 2 (ruP 4 x)++textL 2 (ruP 5 x)) w wx)
   case first=>
    cases hc:(x.permit)with
    |true=>
     have E:textL 2 (ruP 5 x)=lineW 2 [[97,99,99,101,112,116]] [59]:=by rw[show ruP 5 x=[stn [if x.permit then [97,99,99,101,112,116]else [100,105,115,99,97,114,100]]]from rfl,hc,zAz,zAn];rfl
     try rw[hc]at c0
     go_wp2_with fail;refine(rput H.out [[97,99,99,101,112,116]] (by first|(simp[joinW];done)|rfl) (by decide) (by rw[←E];have:=HO.out;simp only[yA]at this⊢;omega)).mono ?_;rintro e w2 ⟨rfl,h2⟩;have H2:=hid h2;clear h2;go_wp2;go_meet;rw[E];exact H2.out
    |false=>
     have E:textL 2 (ruP 5 x)=lineW 2 [[100,105,115,99,97,114,100]] [59]:=by rw[show ruP 5 x=[stn [if x.permit then [97,99,99,101,112,116]else [100,105,115,99,97,114,100]]]from rfl,hc,zAz,zAn];rfl
     try rw[hc]at c0
     go_wp2_with fail;refine(rput H.out [[100,105,115,99,97,114,100]] (by first|(simp[joinW];done)|rfl) (by decide) (by rw[←E];have:=HO.out;simp only[yA]at this⊢;omega)).mono ?_;rintro e w2 ⟨rfl,h2⟩;have H2:=hid h2;clear h2;go_wp2;go_meet;rw[E];exact H2.out
   case rest=>
   clear H c0;have H:=hid hcut;clear hcut;go_wp2_with (refine zAf rfl rfl rfl rfl (by simp[lineW,joinW]at hj⊢;omega) ?_);refine(zFh H.out (by decide) (by have:=HO.out;simp only[yA]at this⊢;omega)).mono ?_;rintro e w6 ⟨rfl,h2⟩;have H6:=hid h2;clear h2;clear H;go_wp2;go_roundg (y.rules.length - (i+1));case measure=>omega
   case rel=>
    refine⟨i+1,by omega,by go_num,hid ?_⟩;have:=H6.out.pop;rw[hv]at this;rw[EU.out,HU.out];simpa only[yE] using this
theorem wlists_any(g:Nat)(s:List UInt8)(r:Rt)(w:World)(B:Nat)(h:HasC 108 g (WC 0 s) w)(hB:B≤g)(hr:r.at w B)(hx:∀y∈r.lists,∀x∈y.rules,zFa x=true∧x.fit)(hl:(s++textL 0 (r.lists.map listN)).length≤140737488355328) :
  Calls Tryz.prog 45 #[.pointer (some ⟨g,0,none⟩),.agg r.C] w (WP g 0 s (textL 0 (r.lists.map listN)) w):=by
 have HN:=hid hr.nlists;have hln:r.lists.length≤9223372036854775807:=by have:=hr.hlists.len;unfold maxLen at this;omega
 obtain⟨A,c,hve,-,-⟩:=hr.hlists;have HV:=hid (hve ▸ hr.hlists);have HE:=hid (congrArg some hve);have H0:Hid (XW [(41,w.heap.size,r.C)] g 0 s w (w.alloc (.cells r.C 41))):=hid ((XW.start h).new (HasC.new w _ _) ((Below.refl w.heap.size w).alloc (yI _) _));replace hx:=hid hx;replace hB:=hid hB;have HL:=hid hl;clear h hr hve hl;go_enter Tryz.func45,Tryz.ntmps45;go_upto_region 1 with fail
 generalize w.alloc (.cells r.C 41)=wa at H0⊢;generalize w.heap.size=gr at H0⊢;generalize r.lists=l at *;go_wp2;go_loopg [4,5,6,7] l.length (fun gh ix _ _ _ wr=>∃k:Nat,k+gh=l.length∧ix=.int .i64 k∧Hid (XW [(41,gr,r.C)] g 0 (s++textL 0 ((l.take k).map listN)) w wr));case atStart=>exact⟨0,by omega,rfl,hid (by rw[List.take_zero,List.map_nil,textL,yF];exact H0.out)⟩
 case round=>
  clear H0;obtain⟨k,hk,rfl,HR⟩:=hrel;have cr:wr.cell? ⟨gr,3,none⟩=some (.slice A l.length c):=(HR.out.a.cell 3).trans HE.out;by_cases hlt:k<l.length;case neg=>
   have hkz:¬((k:Int)<(l.length:Int)):=by omega
   have E:=zBc 0 listN hlt;go_wp2_with fail;go_end0;exact⟨rfl,by have:=HR.out.t;rwa [E]at this,HR.out.k⟩
  have hkz:(k:Int)<(l.length:Int):=by omega
  obtain⟨gq,oq,c', e',-,hgq,R0⟩:=SlV.elem (n:=2) (by decide) (fun _=>rfl) HV.out hlt;injection e' with e1 e2 e3
  subst e1 e3;have HX:=hid (hx.out _ (List.getElem_mem hlt));have HW:=hid (HN.out _ (List.getElem_mem hlt));have ET:=hid (zAu 0 listN hlt);have HP:=hid (zAy 0 listN hlt);generalize l[k]=y at HX HW ET HP R0;have hln2:y.rules.length≤9223372036854775807:=by have:=SlV.len (show SlV w B 5 PRule.C y.v y.rules from HW.out);unfold maxLen at this;omega
  obtain⟨A2,c2,hv2,-,-⟩:=HW.out;have HV2:Hid (SlV w B 5 PRule.C (.slice A2 y.rules.length c2) y.rules):=hid (hv2 ▸ HW.out);have HQ:Hid (∀L d t W,XW L g d t w W→W.cell? ⟨gq,oq+k*2,none⟩=some (.string (str y.name))∧W.cell? ⟨gq,oq+k*2+1,none⟩=some (.slice A2 y.rules.length c2)):=hid fun L d t W hW=>have q:=zAg R0 (hW.low hB.out) hgq;⟨q 0 _ rfl,(q 1 _ rfl).trans (congrArg some hv2)⟩
  obtain⟨q0,q1⟩:=HQ.out _ _ _ _ HR.out;obtain⟨p,hp⟩:∃zz,zz=s++textL 0 ((l.take k).map listN):=⟨_,rfl⟩;have HT:Hid (textN 0 (listN y)=lineW 0 [[112,114,101,102,105,120,45,108,105,115,116],y.name] [32,123]++textL 1 (y.rules.map prN)++lineW 0 [] [125]):=hid (by simp only[listN,zBm]);have HM:Hid (p.length+(lineW 0 [[112,114,101,102,105,120,45,108,105,115,116],y.name] [32,123]++textL 1 (y.rules.map prN)++lineW 0 [] [125]).length≤140737488355328):=hid (by rw[←HT.out,hp];have:=HL.out;have:=HP.out;simp only[yA]at *;omega);have hj:(lineW 0 [[112,114,101,102,105,120,45,108,105,115,116],y.name] [32,123]).length≤140737488355328:=by have:=HM.out;simp only[yA]at this⊢;omega
  rw[←hp]at HR;clear hv2 e2 R0 HW HP;go_wp2_with (refine zAf rfl rfl rfl rfl (by simp[lineW,joinW]at hj⊢;omega) ?_);refine(ropen HR.out [[112,114,101,102,105,120,45,108,105,115,116],y.name] (by first|(simp[joinW];done)|rfl) (by decide) (by have:=HM.out;simp only[yA]at this⊢;omega)).mono ?_;rintro e w2 ⟨rfl,h2⟩;have H2:=hid h2;clear h2 HR cr q0 q1 hj;go_wp2;go_loopg [5,6,7] y.rules.length (fun gh ix _ _ wr=>∃i:Nat,i+gh=y.rules.length∧ix=.int .i64 i∧Hid (XW [(41,gr,r.C)] g 1 (p++lineW 0 [[112,114,101,102,105,120,45,108,105,115,116],y.name] [32,123]++textL 1 ((y.rules.take i).map prN)) w wr));case atStart=>exact⟨0,by omega,rfl,hid (by rw[List.take_zero,List.map_nil,textL,yF];exact H2.out)⟩
  case round=>
   clear H2;obtain⟨i,hi,rfl,HR⟩:=hrel;have cr:wr.cell? ⟨gr,3,none⟩=some (.slice (some ⟨gq,oq,none⟩) l.length c):=(HR.out.a.cell 3).trans HE.out;obtain⟨q0,q1⟩:=HQ.out _ _ _ _ HR.out;by_cases hlt2:i<y.rules.length;case neg=>
    have hiz:¬((i:Int)<(y.rules.length:Int)):=by omega
    have E:=zBc 1 prN hlt2;go_wp2_with fail;refine(zFh HR.out (by decide) (by rw[E];have:=HM.out;simp only[yA]at this⊢;omega)).mono ?_;rintro e w3 ⟨rfl,h3⟩;have R:=hid h3;clear h3;go_wp2;go_roundg (l.length - (k+1));case measure=>omega
    case rel=>
     refine⟨k+1,by omega,by go_num,hid ?_⟩;have:=R.out;rw[E,hp]at this;rw[ET.out,HT.out];simpa only[yE] using this
   have hiz:(i:Int)<(y.rules.length:Int):=by omega
   obtain⟨gp,op,c3,e',-,hgp,R0⟩:=SlV.elem (n:=5) (by decide) (fun _=>rfl) HV2.out hlt2;injection e' with e1 e2 e3
   subst e1 e3;have r1:=hid (zAg R0 (HR.out.low hB.out) hgp);have HY:=hid (HX.out _ (List.getElem_mem hlt2));have EU:=hid (zAu 1 prN hlt2);have HP:=hid (zAy 1 prN hlt2);generalize y.rules[i]=x at HY EU HP r1 R0;clear R0 e2;go_upto_region 9 with(first|(refine zAa rfl 136 _ rfl rfl r1.out Tryz.rowPRule Tryz.sizePRule ?_)|(refine zAd rfl 136 _ _ rfl rfl rfl (HasC.new wr _ _) rfl Tryz.sizePRule (PRule.one x) ?_;intro w4 hz1 hz2))
   obtain⟨v,hv⟩:∃zz,zz=p++lineW 0 [[112,114,101,102,105,120,45,108,105,115,116],y.name] [32,123]++textL 1 ((y.rules.take i).map prN):=⟨_,rfl⟩;have H4:Hid (XW [(136,wr.heap.size,x.C),(41,gr,r.C)] g 1 v w w4):=hid (by rw[hv];exact HR.out.new hz1 (zAi hz2));have HO:Hid (v.length+(textN 1 (prN x)).length≤140737488355328):=hid (by rw[hv];have:=HM.out;have:=HP.out;simp only[yA]at *;omega);clear hz1 hz2 r1 HR HP cr q0 q1 HM HX;generalize wr.heap.size=gx at H4⊢;obtain⟨hv0,k1,k2,k3⟩:=pr_ok HY.out.1;have k0:=(validP_in hv0).1;have hf:=HY.out.2;obtain⟨W0,hW0⟩:∃zz,zz=(if x.permit then [112,101,114,109,105,116]else([100,101,110,121]:List UInt8)):=⟨_,rfl⟩;obtain⟨bw,hbw⟩:∃zz,zz=zDp x:=⟨_,rfl⟩;have HU:Hid (textN 1 (prN x)=lineW 1 (W0 :: pfxF x.pa x.pl :: bw) [59]):=hid (by rw[prN,zAn,hW0,hbw]);have HB:=hid hbw;have hj:(lineW 1 (W0 :: pfxF x.pa x.pl :: bw) [59]).length≤140737488355328:=by have:=HO.out;rw[HU.out]at this;omega
   have HJ:=hid hj;have HX:Hid (∀W,XW [(136,gx,x.C),(41,gr,r.C)] g 1 (v) w W→W.cell? ⟨gx,0,none⟩=some (.bool x.permit)∧W.cell? ⟨gx,1,none⟩=some (.int .u32 (x.pa:Int))∧W.cell? ⟨gx,2,none⟩=some (.int .i64 x.pl)):=hid fun W hW=>⟨hW.a.cell 0,hW.a.cell 1,hW.a.cell 2⟩
   have Q0:Hid (∀W,XW [(136,gx,x.C),(41,gr,r.C)] g 1 (v) w W→Calls Tryz.prog 112 #[.bool x.permit] W fun e w' => e=.returned (.string (str W0))∧XW [(136,gx,x.C),(41,gr,r.C)] g 1 (v) w w'):=hid fun W hW=>hW0 ▸ (rallow_any x.permit W).mono fun e w' ⟨he,hw⟩=>⟨he,hw ▸ hW⟩
   have Q1:Hid (∀W,XW [(136,gx,x.C),(41,gr,r.C)] g 1 (v) w W→Calls Tryz.prog 113 #[.agg #[.int .u32 (x.pa:Int),.int .i64 x.pl]] W fun e w' => e=.returned (.string (str (pfxF x.pa x.pl)))∧XW [(136,gx,x.C),(41,gr,r.C)] g 1 (v) w w'):=hid fun W hW=>(zDk x.pa x.pl W hf).mono fun e w' ⟨he,hb⟩=>⟨he,hW.below hb⟩
   clear hW0 hbw hv0;refine zBf (fun W=>XW [(136,gx,x.C),(41,gr,r.C)] g 1 (v) w W) (by kernel_rfl) (by kernel_rfl) H4.out.drew ?_
   repeat
    (first
     |(refine seq_add rfl rfl rfl rfl ?_ ?_;(· (simp[lineW,joinW]at hj⊢;omega)))
     |(refine zCk (v:=?_) ?_ ?_ ?_;rotate_left;(· rfl);(· (intro W hW;obtain⟨c0,c1,c2⟩:=HX.out W hW;go_simp<;>rfl)))
     |(refine zBp ?_ ?_ Q0.out ?_;(· rfl);(· (intro W hW;go_simp<;>rfl)))
     |(refine zBp ?_ ?_ Q1.out ?_;(· rfl);(· (intro W hW;go_simp<;>rfl))))
    simp only[Act.put,yB,yC,yD]
   refine zDn (fun wq hS=>?_);have H:=hid hS;clear hS HX Q0 Q1 H4;go_upto_block 4 with fail
   go_cut [7] (fun u wx=>u=.string (str (joinW (W0 :: pfxF x.pa x.pl :: bw)))∧XW [(136,gx,x.C),(41,gr,r.C)] g 1 (v) w wx)
   case first=>
    have c2:wq.cell? ⟨gx,2,none⟩=some (.int .i64 x.pl):=H.out.a.cell 2;have c3:wq.cell? ⟨gx,3,none⟩=some (.int .i64 x.min):=H.out.a.cell 3;have c4:wq.cell? ⟨gx,4,none⟩=some (.int .i64 x.max):=H.out.a.cell 4;by_cases e1:x.min=x.pl
    ·have d1:(x.min==x.pl)=true:=by simpa using e1
     by_cases e2:x.max=x.pl
     ·have d2:(x.max==x.pl)=true:=by simpa using e2
      have E:bw=[[101,120,97,99,116]]:=HB.out.trans (by unfold zDp;rw[d1,d2];rfl);clear e1 e2;subst E;go_wp2_with (refine zAf rfl rfl rfl rfl (by simp[lineW,joinW]at hj⊢;omega) ?_);go_meet;exact⟨by simp[joinW],H.out⟩
     have d2:(x.max==x.pl)=false:=by simpa using e2
     by_cases e3:x.max=32
     ·have d3:(x.max==32)=true:=by simpa using e3
      have E:bw=[[111,114,108,111,110,103,101,114]]:=HB.out.trans (by unfold zDp;rw[d1,d2,d3];rfl);clear e1 e2 e3;subst E;go_wp2_with (refine zAf rfl rfl rfl rfl (by simp[lineW,joinW]at hj⊢;omega) ?_);go_meet;exact⟨by simp[joinW],H.out⟩
     have d3:(x.max==32)=false:=by simpa using e3
     have E:bw=[[117,112,116,111],decI x.max]:=HB.out.trans (by unfold zDp;rw[d1,d2,d3];rfl);clear e1 e2 e3;subst E;go_wp2_with (refine zAf rfl rfl rfl rfl (by simp[lineW,joinW]at hj⊢;omega) ?_);refine(zBy x.max _ (by omega) (by omega)).mono ?_;rintro e w1 ⟨rfl,rfl⟩;go_wp2_with (refine zAf rfl rfl rfl rfl (by simp[lineW,joinW]at hj⊢;omega) ?_);go_meet;exact⟨by simp[joinW],H.out⟩
    have d1:(x.min==x.pl)=false:=by simpa using e1
    have E:bw=[[114,97,110,103,101],decI x.min,decI x.max]:=HB.out.trans (by unfold zDp;rw[d1];rfl);clear e1;subst E;go_upto_region 10 with fail
    have HX:Hid (∀W,XW [(136,gx,x.C),(41,gr,r.C)] g 1 (v) w W→W.cell? ⟨gx,2,none⟩=some (.int .i64 x.pl)∧W.cell? ⟨gx,3,none⟩=some (.int .i64 x.min)∧W.cell? ⟨gx,4,none⟩=some (.int .i64 x.max)):=hid fun W hW=>⟨hW.a.cell 2,hW.a.cell 3,hW.a.cell 4⟩
    have Q0:Hid (∀W,XW [(136,gx,x.C),(41,gr,r.C)] g 1 (v) w W→Calls Tryz.prog 42 #[.int .i64 x.min] W fun e w' => e=.returned (.string (str (decI x.min)))∧XW [(136,gx,x.C),(41,gr,r.C)] g 1 (v) w w'):=hid fun W hW=>(zBy x.min W (by omega) (by omega)).mono fun e w' ⟨he,hw⟩=>⟨he,hw ▸ hW⟩
    have Q1:Hid (∀W,XW [(136,gx,x.C),(41,gr,r.C)] g 1 (v) w W→Calls Tryz.prog 42 #[.int .i64 x.max] W fun e w' => e=.returned (.string (str (decI x.max)))∧XW [(136,gx,x.C),(41,gr,r.C)] g 1 (v) w w'):=hid fun W hW=>(zBy x.max W (by omega) (by omega)).mono fun e w' ⟨he,hw⟩=>⟨he,hw ▸ hW⟩
    clear c2 c3 c4;refine zBf (fun W=>XW [(136,gx,x.C),(41,gr,r.C)] g 1 (v) w W) (by kernel_rfl) (by kernel_rfl) H.out.drew ?_
    repeat
     (first
      |(refine seq_add rfl rfl rfl rfl ?_ ?_;(· (simp[lineW,joinW]at hj⊢;omega)))
      |(refine zCk (v:=?_) ?_ ?_ ?_;rotate_left;(· rfl);(· (intro W hW;obtain⟨c2,c3,c4⟩:=HX.out W hW;go_simp<;>rfl)))
      |(refine zBp ?_ ?_ Q0.out ?_;(· rfl);(· (intro W hW;go_simp<;>rfl)))
      |(refine zBp ?_ ?_ Q1.out ?_;(· rfl);(· (intro W hW;go_simp<;>rfl))))
     simp only[Act.put,yB,yC,yD]
    refine zDn (fun wz hS=>?_);have R:=hid hS;clear hS HX Q0 Q1;go_wp2;go_meet;exact⟨by simp[joinW],R.out⟩
   case rest=>
   clear H hj;obtain⟨rfl,hcut⟩:=hcut;have H:=hid hcut;have hj:(joinW (W0 :: pfxF x.pa x.pl :: bw)).length≤140737488355328:=by have:=HJ.out;simp only[lineW,yA]at this;omega
   clear hcut;generalize hJ:joinW (W0 :: pfxF x.pa x.pl :: bw)=J at hj⊢;go_wp2_with (refine zAf rfl rfl rfl rfl (by simp only[yG,yH];omega) ?_);refine(rput H.out (W0 :: pfxF x.pa x.pl :: bw) (by rw[hJ]) (by decide) (by rw[←HU.out];exact HO.out)).mono ?_;rintro e w5 ⟨rfl,h2⟩;have H5:=hid h2;clear h2 H;go_wp2;go_roundg (y.rules.length - (i+1));case measure=>omega
   case rel=>
    refine⟨i+1,by omega,by go_num,hid ?_⟩;have:=H5.out.pop;rw[hv]at this;rw[EU.out,HU.out];simpa only[yE] using this
theorem goal_ways{x:Sr}(h:cntB (zHn x)=1):(x.discard=true∧goalN x=stn [[100,105,115,99,97,114,100]])∨(x.discard=false∧x.iface.isEmpty=false∧goalN x=stn [[105,110,116,101,114,102,97,99,101],x.iface])∨(x.discard=false∧x.iface.isEmpty=true∧goalN x=stn [[110,101,120,116,45,104,111,112],fmtA x.next]):=by
 obtain⟨pa,pl,next,iface,discard,admin,tag⟩:=x;simp only[zHn,cntB,goalN]at h⊢;by_cases h1:next=0
 ·cases iface<;>cases discard<;>simp_all
 ·cases iface<;>cases discard<;>simp_all
theorem wstatics_any(g:Nat)(s:List UInt8)(r:Rt)(w:World)(B:Nat)(h:HasC 108 g (WC 0 s) w)(hB:B≤g)(hr:r.at w B)(hx:∀x∈r.nat,zBl x=true∧x.fit)(hy:∀x∈r.stat,cntB (zHn x)=1∧(1≤x.admin∧x.admin≤255)∧(0≤x.tag∧x.tag≤65535)∧x.fit)(hl:(s++(textL 0 (natN r.nat)++textL 0 (statN r.stat))).length≤140737488355328) :
  Calls Tryz.prog 48 #[.pointer (some ⟨g,0,none⟩),.agg r.C] w (WP g 0 s (textL 0 (natN r.nat)++textL 0 (statN r.stat)) w):=by
 have hln:r.nat.length≤9223372036854775807:=by have:=hr.hnat.len;unfold maxLen at this;omega
 have hlm:r.stat.length≤9223372036854775807:=by have:=hr.hstat.len;unfold maxLen at this;omega
 obtain⟨A,c,hve,-,-⟩:=hr.hnat;have HV:=hid (hve ▸ hr.hnat);have HE:=hid (congrArg some hve);obtain⟨A', c', hve',-,-⟩:=hr.hstat;have HV' := hid (hve' ▸ hr.hstat);have HE' := hid (congrArg some hve');have H0:Hid (XW [(41,w.heap.size,r.C)] g 0 s w (w.alloc (.cells r.C 41))):=hid ((XW.start h).new (HasC.new w _ _) ((Below.refl w.heap.size w).alloc (yI _) _));replace hx:=hid hx;replace hy:=hid hy;replace hB:=hid hB;have HL:=hid hl;clear h hr hve hve' hl;go_enter Tryz.func48,Tryz.ntmps48;go_upto_region 1 with fail
 generalize w.alloc (.cells r.C 41)=wa at H0⊢;generalize w.heap.size=gr at H0⊢;generalize r.nat=l at *;generalize r.stat=l' at *;have c6:wa.cell? ⟨gr,6,none⟩=some (.slice A l.length c):=(H0.out.a.cell 6).trans HE.out;go_upto_if 11 with fail
 go_cut [] (fun wx=>XW [(41,gr,r.C)] g 0 (s++textL 0 (natN l)) w wx)
 case first=>
  cases hem:l.isEmpty with
  |true=>
   obtain rfl:=List.isEmpty_iff.1 hem;go_wp2;go_meet;rw[show natN []=[]from rfl,textL,yF];exact H0.out
  |false=>
  have hz:(0:Int)<(l.length:Int):=by
   cases l with
   |nil=>cases hem
   |cons a b=>simp only[yG];omega
  have EL:Hid (textL 0 (natN l)=lineW 0 [[116,114,97,110,115,108,97,116,105,111,110]] [32,123]++textL 1 (l.map fun x=>stn (trW x))++lineW 0 [] [125]):=hid (by rw[natN,hem,if_neg (by decide),zAz,zBm]);rw[EL.out]at HL;clear hem;go_wp2_with fail;refine(ropen H0.out [[116,114,97,110,115,108,97,116,105,111,110]] (by first|(simp[joinW];done)|rfl) (by decide) (by have:=HL.out;simp only[yA]at this⊢;omega)).mono ?_;rintro e w2 ⟨rfl,h2⟩;have H2:=hid h2;clear h2 H0 c6;go_wp2_with fail;obtain⟨q,hq⟩:∃zz,zz=s++lineW 0 [[116,114,97,110,115,108,97,116,105,111,110]] [32,123]:=⟨_,rfl⟩;rw[←hq]at H2;have HQ:Hid ((q++textL 1 (l.map fun x=>stn (trW x))).length≤140737488355328):=hid (by rw[hq];have:=HL.out;simp only[yA]at this⊢;omega);go_loopg [4,5] l.length (fun gh ix _ wr=>∃k:Nat,k+gh=l.length∧ix=.int .i64 k∧Hid (XW [(41,gr,r.C)] g 1 (q++textL 1 ((l.take k).map (fun x:Tr=>stn (trW x)))) w wr));case atStart=>exact⟨0,by omega,rfl,hid (by rw[List.take_zero,List.map_nil,textL,yF];exact H2.out)⟩
  case round=>
   clear H2;obtain⟨k,hk,rfl,HR⟩:=hrel;have c6:wr.cell? ⟨gr,6,none⟩=some (.slice A l.length c):=(HR.out.a.cell 6).trans HE.out;by_cases hlt:k<l.length;case neg=>
    have hkz:¬((k:Int)<(l.length:Int)):=by omega
    have E:=zBc 1 (fun x:Tr=>stn (trW x)) hlt;go_wp2_with fail;refine(zFh HR.out (by decide) (by rw[E,hq];have:=HL.out;simp only[yA]at this⊢;omega)).mono ?_;rintro e w3 ⟨rfl,h3⟩;have R:=hid h3;clear h3;go_wp2;go_meet;have:=R.out;rw[E,hq]at this;rw[EL.out];simpa only[yE] using this
   have hkz:(k:Int)<(l.length:Int):=by omega
   obtain⟨gr', o', c', e',-,hgr', R0⟩:=SlV.elem (n:=9) (by decide) (fun _=>rfl) HV.out hlt;injection e' with e1 e2 e3
   subst e1 e3;have r1:=hid (zAg R0 (HR.out.low hB.out) hgr');clear R0 e2;have HX:=hid (hx.out _ (List.getElem_mem hlt));have ET:=hid (zAu 1 (fun x:Tr=>stn (trW x)) hlt);have HP:=hid (zAy 1 (fun x:Tr=>stn (trW x)) hlt);generalize l[k]=x at HX ET HP r1;obtain⟨p,hp⟩:∃zz,zz=q++textL 1 ((l.take k).map (fun x:Tr=>stn (trW x))):=⟨_,rfl⟩;have HM:Hid (p.length+(textN 1 ((fun x:Tr=>stn (trW x)) x)).length≤140737488355328):=hid (by rw[hp];have h1:=HQ.out;have h2:_+(textN 1 ((fun x:Tr=>stn (trW x)) x)).length≤_:=HP.out;simp only[yA]at *;omega);rw[←hp]at HR;clear HP;go_upto_region 7 with(first|(refine zAa rfl 74 _ rfl rfl r1.out Tryz.rowTr Tryz.sizeTr ?_)|(refine zAd rfl 74 _ _ rfl rfl rfl (HasC.new wr _ _) rfl Tryz.sizeTr (Tr.one x) ?_;intro w4 hz1 hz2))
   have H4:=hid (HR.out.new hz1 (zAi hz2));clear hz1 hz2 r1 HR;generalize wr.heap.size=gx at H4⊢;obtain⟨hr,f1,f2,f3,f4⟩:=HX.out;have hk3:=tr_kinds hr;have c0:w4.cell? ⟨gx,0,none⟩=some (.int .i64 x.kind):=H4.out.a.cell 0;by_cases e1:x.kind=1
   ·have gk:x.kind=1:=e1
    have E:textN 1 (stn (trW x))=lineW 1 [[115,116,97,116,105,99],fmtA x.ins,fmtA x.outs] [59]:=by rw[zAn,trW,gk];rfl
    have hj:(lineW 1 [[115,116,97,116,105,99],fmtA x.ins,fmtA x.outs] [59]).length≤140737488355328:=by rw[←E];exact yJ (Nat.le_add_left _ _) HM.out
    rw[gk]at c0;clear hr hk3 e1 gk;go_upto_region 10 with fail
    have HX:Hid (∀W,XW ((74,gx,x.C) :: [(41,gr,r.C)]) g 1 (p) w W→W.cell? ⟨gx,1,none⟩=some (.int .u32 (x.ins:Int))∧W.cell? ⟨gx,2,none⟩=some (.int .u32 (x.outs:Int))):=hid fun W hW=>⟨hW.a.cell 1,hW.a.cell 2⟩
    have Q0:Hid (∀W,XW ((74,gx,x.C) :: [(41,gr,r.C)]) g 1 (p) w W→Calls Tryz.prog 118 #[.int .u32 (x.ins:Int)] W fun e w' => e=.returned (.string (str (fmtA x.ins)))∧XW ((74,gx,x.C) :: [(41,gr,r.C)]) g 1 (p) w w'):=hid fun W hW=>(zEf x.ins W f1).mono fun e w' ⟨he,hw⟩=>⟨he,hw ▸ hW⟩
    have Q1:Hid (∀W,XW ((74,gx,x.C) :: [(41,gr,r.C)]) g 1 (p) w W→Calls Tryz.prog 118 #[.int .u32 (x.outs:Int)] W fun e w' => e=.returned (.string (str (fmtA x.outs)))∧XW ((74,gx,x.C) :: [(41,gr,r.C)]) g 1 (p) w w'):=hid fun W hW=>(zEf x.outs W f2).mono fun e w' ⟨he,hw⟩=>⟨he,hw ▸ hW⟩
    refine zCj (fun W=>XW ((74,gx,x.C) :: [(41,gr,r.C)]) g 1 (p) w W) 11 (by kernel_rfl) (by kernel_rfl) H4.out.drew ?_
    repeat
     (first
      |(refine zHu rfl rfl rfl rfl ?_ ?_;(· (simp[lineW,joinW]at hj⊢;omega)))
      |(refine zBq (v:=?_) ?_ ?_ ?_;rotate_left;(· rfl);(· (intro W hW;obtain⟨c1,c2⟩:=HX.out W hW;go_simp<;>rfl)))
      |(refine zAm ?_ ?_ Q0.out ?_;(· rfl);(· (intro W hW;go_simp<;>rfl)))
      |(refine zAm ?_ ?_ Q1.out ?_;(· rfl);(· (intro W hW;go_simp<;>rfl))))
     simp only[Act.put,yB,yC,yD]
    refine zCg ?_;intro wq hS;change wpList _ _ _ (_ :: []) _ _;have HS:=hid hS;clear hS HX Q0 Q1;go_wp2_with fail;refine(rput HS.out [[115,116,97,116,105,99],fmtA x.ins,fmtA x.outs] (by first|(simp[joinW];done)|rfl) (by decide) (by rw[←E];exact HM.out)).mono ?_;rintro e w2 ⟨rfl,h2⟩;rw[←E]at h2;have H2:=hid h2;clear h2;go_wp2;go_roundg (l.length - (k+1));case measure=>omega
    case rel=>
     refine⟨k+1,by omega,by go_num,hid ?_⟩;have:=H2.out.pop;rw[hp]at this;rw[ET.out];simpa only[yE] using this
   by_cases e2:x.kind=2
   ·have gk:x.kind=2:=e2
    have E:textN 1 (stn (trW x))=lineW 1 [[112,111,111,108],x.list,fmtA x.lo,fmtA x.hi] [59]:=by rw[zAn,trW,gk];rfl
    have hj:(lineW 1 [[112,111,111,108],x.list,fmtA x.lo,fmtA x.hi] [59]).length≤140737488355328:=by rw[←E];exact yJ (Nat.le_add_left _ _) HM.out
    rw[gk]at c0;clear hr hk3 e2 gk;go_upto_region 12 with fail
    have HX:Hid (∀W,XW ((74,gx,x.C) :: [(41,gr,r.C)]) g 1 (p) w W→W.cell? ⟨gx,6,none⟩=some (.string (str x.list))∧W.cell? ⟨gx,7,none⟩=some (.int .u32 (x.lo:Int))∧W.cell? ⟨gx,8,none⟩=some (.int .u32 (x.hi:Int))):=hid fun W hW=>⟨hW.a.cell 6,hW.a.cell 7,hW.a.cell 8⟩
    have Q0:Hid (∀W,XW ((74,gx,x.C) :: [(41,gr,r.C)]) g 1 (p) w W→Calls Tryz.prog 118 #[.int .u32 (x.lo:Int)] W fun e w' => e=.returned (.string (str (fmtA x.lo)))∧XW ((74,gx,x.C) :: [(41,gr,r.C)]) g 1 (p) w w'):=hid fun W hW=>(zEf x.lo W f3).mono fun e w' ⟨he,hw⟩=>⟨he,hw ▸ hW⟩
    have Q1:Hid (∀W,XW ((74,gx,x.C) :: [(41,gr,r.C)]) g 1 (p) w W→Calls Tryz.prog 118 #[.int .u32 (x.hi:Int)] W fun e w' => e=.returned (.string (str (fmtA x.hi)))∧XW ((74,gx,x.C) :: [(41,gr,r.C)]) g 1 (p) w w'):=hid fun W hW=>(zEf x.hi W f4).mono fun e w' ⟨he,hw⟩=>⟨he,hw ▸ hW⟩
    refine zCj (fun W=>XW ((74,gx,x.C) :: [(41,gr,r.C)]) g 1 (p) w W) 15 (by kernel_rfl) (by kernel_rfl) H4.out.drew ?_
    repeat
     (first
      |(refine zHu rfl rfl rfl rfl ?_ ?_;(· (simp[lineW,joinW]at hj⊢;omega)))
      |(refine zBq (v:=?_) ?_ ?_ ?_;rotate_left;(· rfl);(· (intro W hW;obtain⟨c6,c7,c8⟩:=HX.out W hW;go_simp<;>rfl)))
      |(refine zAm ?_ ?_ Q0.out ?_;(· rfl);(· (intro W hW;go_simp<;>rfl)))
      |(refine zAm ?_ ?_ Q1.out ?_;(· rfl);(· (intro W hW;go_simp<;>rfl))))
     simp only[Act.put,yB,yC,yD]
    refine zCg ?_;intro wq hS;change wpList _ _ _ (_ :: []) _ _;have HS:=hid hS;clear hS HX Q0 Q1;go_wp2_with fail;refine(rput HS.out [[112,111,111,108],x.list,fmtA x.lo,fmtA x.hi] (by first|(simp[joinW];done)|rfl) (by decide) (by rw[←E];exact HM.out)).mono ?_;rintro e w2 ⟨rfl,h2⟩;rw[←E]at h2;have H2:=hid h2;clear h2;go_wp2;go_roundg (l.length - (k+1));case measure=>omega
    case rel=>
     refine⟨k+1,by omega,by go_num,hid ?_⟩;have:=H2.out.pop;rw[hp]at this;rw[ET.out];simpa only[yE] using this
   have gk:x.kind=3:=by omega
   obtain⟨t1,t2,t3⟩:=tr_forward hr gk;have E:textN 1 (stn (trW x))=lineW 1 [[102,111,114,119,97,114,100],protW x.proto,fmtA x.outs,decI x.oport,fmtA x.ins,decI x.iport] [59]:=by rw[zAn,trW,gk];rfl
   have hj:(lineW 1 [[102,111,114,119,97,114,100],protW x.proto,fmtA x.outs,decI x.oport,fmtA x.ins,decI x.iport] [59]).length≤140737488355328:=by rw[←E];exact yJ (Nat.le_add_left _ _) HM.out
   rw[gk]at c0;clear hr hk3;go_upto_region 8 with fail
   have HX:Hid (∀W,XW ((74,gx,x.C) :: [(41,gr,r.C)]) g 1 (p) w W→W.cell? ⟨gx,1,none⟩=some (.int .u32 (x.ins:Int))∧W.cell? ⟨gx,2,none⟩=some (.int .u32 (x.outs:Int))∧W.cell? ⟨gx,3,none⟩=some (.int .i64 x.proto)∧W.cell? ⟨gx,4,none⟩=some (.int .i64 x.iport)∧W.cell? ⟨gx,5,none⟩=some (.int .i64 x.oport)):=hid fun W hW=>⟨hW.a.cell 1,hW.a.cell 2,hW.a.cell 3,hW.a.cell 4,hW.a.cell 5⟩
   have Q0:Hid (∀W,XW ((74,gx,x.C) :: [(41,gr,r.C)]) g 1 (p) w W→Calls Tryz.prog 114 #[.int .i64 x.proto] W fun e w' => e=.returned (.string (str (protW x.proto)))∧XW ((74,gx,x.C) :: [(41,gr,r.C)]) g 1 (p) w w'):=hid fun W hW=>(rtrans_any x.proto W (by rcases t1 with e|e<;>omega) (by rcases t1 with e|e<;>omega)).mono fun e w' ⟨he,hw⟩=>⟨he,hw ▸ hW⟩
   have Q1:Hid (∀W,XW ((74,gx,x.C) :: [(41,gr,r.C)]) g 1 (p) w W→Calls Tryz.prog 118 #[.int .u32 (x.outs:Int)] W fun e w' => e=.returned (.string (str (fmtA x.outs)))∧XW ((74,gx,x.C) :: [(41,gr,r.C)]) g 1 (p) w w'):=hid fun W hW=>(zEf x.outs W f2).mono fun e w' ⟨he,hw⟩=>⟨he,hw ▸ hW⟩
   have Q2:Hid (∀W,XW ((74,gx,x.C) :: [(41,gr,r.C)]) g 1 (p) w W→Calls Tryz.prog 42 #[.int .i64 x.oport] W fun e w' => e=.returned (.string (str (decI x.oport)))∧XW ((74,gx,x.C) :: [(41,gr,r.C)]) g 1 (p) w w'):=hid fun W hW=>(zBy x.oport W t3.1 (by omega)).mono fun e w' ⟨he,hw⟩=>⟨he,hw ▸ hW⟩
   have Q3:Hid (∀W,XW ((74,gx,x.C) :: [(41,gr,r.C)]) g 1 (p) w W→Calls Tryz.prog 118 #[.int .u32 (x.ins:Int)] W fun e w' => e=.returned (.string (str (fmtA x.ins)))∧XW ((74,gx,x.C) :: [(41,gr,r.C)]) g 1 (p) w w'):=hid fun W hW=>(zEf x.ins W f1).mono fun e w' ⟨he,hw⟩=>⟨he,hw ▸ hW⟩
   have Q4:Hid (∀W,XW ((74,gx,x.C) :: [(41,gr,r.C)]) g 1 (p) w W→Calls Tryz.prog 42 #[.int .i64 x.iport] W fun e w' => e=.returned (.string (str (decI x.iport)))∧XW ((74,gx,x.C) :: [(41,gr,r.C)]) g 1 (p) w w'):=hid fun W hW=>(zBy x.iport W t2.1 (by omega)).mono fun e w' ⟨he,hw⟩=>⟨he,hw ▸ hW⟩
   refine zCj (fun W=>XW ((74,gx,x.C) :: [(41,gr,r.C)]) g 1 (p) w W) 26 (by kernel_rfl) (by kernel_rfl) H4.out.drew ?_
   repeat
    (first
     |(refine zHu rfl rfl rfl rfl ?_ ?_;(· (simp[lineW,joinW]at hj⊢;omega)))
     |(refine zBq (v:=?_) ?_ ?_ ?_;rotate_left;(· rfl);(· (intro W hW;obtain⟨c1,c2,c3,c4,c5⟩:=HX.out W hW;go_simp<;>rfl)))
     |(refine zAm ?_ ?_ Q0.out ?_;(· rfl);(· (intro W hW;go_simp<;>rfl)))
     |(refine zAm ?_ ?_ Q1.out ?_;(· rfl);(· (intro W hW;go_simp<;>rfl)))
     |(refine zAm ?_ ?_ Q2.out ?_;(· rfl);(· (intro W hW;go_simp<;>rfl)))
     |(refine zAm ?_ ?_ Q3.out ?_;(· rfl);(· (intro W hW;go_simp<;>rfl)))
     |(refine zAm ?_ ?_ Q4.out ?_;(· rfl);(· (intro W hW;go_simp<;>rfl))))
    simp only[Act.put,yB,yC,yD]
   refine zCg ?_;intro wq hS;change wpList _ _ _ (_ :: []) _ _;have HS:=hid hS;clear hS HX Q0 Q1 Q2 Q3 Q4;go_wp2_with fail;refine(rput HS.out [[102,111,114,119,97,114,100],protW x.proto,fmtA x.outs,decI x.oport,fmtA x.ins,decI x.iport] (by first|(simp[joinW];done)|rfl) (by decide) (by rw[←E];exact HM.out)).mono ?_;rintro e w2 ⟨rfl,h2⟩;rw[←E]at h2;have H2:=hid h2;clear h2;go_wp2;go_roundg (l.length - (k+1));case measure=>omega
   case rel=>
    refine⟨k+1,by omega,by go_num,hid ?_⟩;have:=H2.out.pop;rw[hp]at this;rw[ET.out];simpa only[yE] using this
 case rest=>
  clear H0 c6;have H:=hid hcut;clear hcut;obtain⟨t,ht⟩:∃zz,zz=s++textL 0 (natN l):=⟨_,rfl⟩;rw[←ht]at H;have HL2:Hid ((t++textL 0 (statN l')).length≤140737488355328):=hid (by rw[ht,yE];exact HL.out);have HF:Hid (∀w', HasC 108 g (WC 0 (t++textL 0 (statN l'))) w' → w.grownBy w' (some g)→WP g 0 s (textL 0 (natN l)++textL 0 (statN l')) w (.returned (.tuple #[])) w'):=hid fun w' h k=>⟨rfl,by rw[←yE,←ht];exact h,k⟩
  clear HL hx HV HE;have c7:wc.cell? ⟨gr,7,none⟩=some (.slice A' l'.length c'):=(H.out.a.cell 7).trans HE'.out;cases hem:l'.isEmpty with
  |true=>
   obtain rfl:=List.isEmpty_iff.1 hem;go_wp2_with fail;go_end0;exact HF.out _ (by rw[show statN []=[]from rfl,textL,yF];exact H.out.t) H.out.k
  |false=>
  have hz:((l'.length:Int)==0)=false:=by
   cases l' with
   |nil=>cases hem
   |cons a b=>rw[beq_eq_false_iff_ne];simp only[yG];omega
  have EL:Hid (textL 0 (statN l')=lineW 0 [[115,116,97,116,105,99]] [32,123]++textL 1 (l'.map srN)++lineW 0 [] [125]):=hid (by rw[statN,hem,if_neg (by decide),zAz,zBm]);rw[EL.out]at HL2;clear hem;go_wp2_with fail;refine(ropen H.out [[115,116,97,116,105,99]] (by first|(simp[joinW];done)|rfl) (by decide) (by have:=HL2.out;simp only[yA]at this⊢;omega)).mono ?_;rintro e w2 ⟨rfl,h2⟩;have H2:=hid h2;clear h2 H c7;go_wp2_with fail;obtain⟨q,hq⟩:∃zz,zz=t++lineW 0 [[115,116,97,116,105,99]] [32,123]:=⟨_,rfl⟩;rw[←hq]at H2;have HQ:Hid ((q++textL 1 (l'.map srN)).length≤140737488355328):=hid (by rw[hq];have:=HL2.out;simp only[yA]at this⊢;omega);go_loopg [6,7] l'.length (fun gh ix _ wr=>∃k:Nat,k+gh=l'.length∧ix=.int .i64 k∧Hid (XW [(41,gr,r.C)] g 1 (q++textL 1 ((l'.take k).map srN)) w wr));case atStart=>exact⟨0,by omega,rfl,hid (by rw[List.take_zero,List.map_nil,textL,yF];exact H2.out)⟩
  case round=>
   clear H2;obtain⟨k,hk,rfl,HR⟩:=hrel;have c7:wr.cell? ⟨gr,7,none⟩=some (.slice A' l'.length c'):=(HR.out.a.cell 7).trans HE'.out;by_cases hlt:k<l'.length;case neg=>
    have hkz:¬((k:Int)<(l'.length:Int)):=by omega
    have E:=zBc 1 srN hlt;go_wp2_with fail;refine(zFh HR.out (by decide) (by rw[E,hq];have:=HL2.out;simp only[yA]at this⊢;omega)).mono ?_;rintro e w3 ⟨rfl,h3⟩;have R:=hid h3;clear h3;go_wp2_with fail;go_end0;refine HF.out _ ?_ R.out.k;have:=R.out.t;rw[E,hq]at this;rw[EL.out];simpa only[yE] using this
   have hkz:(k:Int)<(l'.length:Int):=by omega
   obtain⟨gr', o', c', e',-,hgr', R0⟩:=SlV.elem (n:=7) (by decide) (fun _=>rfl) HV'.out hlt;injection e' with e1 e2 e3
   subst e1 e3;have r1:=hid (zAg R0 (HR.out.low hB.out) hgr');clear R0 e2;have HX:=hid (hy.out _ (List.getElem_mem hlt));have ET:=hid (zAu 1 srN hlt);have HP:=hid (zAy 1 srN hlt);generalize l'[k]=x at HX ET HP r1;obtain⟨p,hp⟩:∃zz,zz=q++textL 1 ((l'.take k).map srN):=⟨_,rfl⟩;have HM:Hid (p.length+(textN 1 (srN x)).length≤140737488355328):=hid (by rw[hp];have h1:=HQ.out;have h2:_+(textN 1 (srN x)).length≤_:=HP.out;simp only[yA]at *;omega);rw[←hp]at HR;clear HP;go_upto_region 20 with(first|(refine zAa rfl 78 _ rfl rfl r1.out Tryz.rowSr Tryz.sizeSr ?_)|(refine zAd rfl 78 _ _ rfl rfl rfl (HasC.new wr _ _) rfl Tryz.sizeSr (Sr.one x) ?_;intro w4 hz1 hz2))
   have H4:=hid (HR.out.new hz1 (zAi hz2));clear hz1 hz2 r1 HR;generalize wr.heap.size=gx at H4⊢;obtain⟨gw,⟨k1,k2⟩,⟨k3,k4⟩,f1,f2⟩:=HX.out;have HU:Hid (textN 1 (srN x)=lineW 1 [[114,111,117,116,101],pfxF x.pa x.pl] [32,123]++(textL 2 (srP 0 x)++(textL 2 (srP 1 x)++(textL 2 (srP 2 x))))++lineW 1 [] [125]):=hid (by simp only[srN,srK,zBm,zBt]);rw[HU.out]at HM;have c0:w4.cell? ⟨gx,0,none⟩=some (.int .u32 (x.pa:Int)):=H4.out.a.cell 0;have c1:w4.cell? ⟨gx,1,none⟩=some (.int .i64 x.pl):=H4.out.a.cell 1;have hj:(lineW 1 [[114,111,117,116,101],pfxF x.pa x.pl] [32,123]).length≤140737488355328:=by have:=HM.out;simp only[yA]at this⊢;omega
   go_wp2_with fail;refine(zDk x.pa x.pl _ f1).mono ?_;rintro e w5 ⟨rfl,hb⟩;have H5:=hid (H4.out.below hb);clear hb c0 c1 H4;go_wp2_with (refine zAf rfl rfl rfl rfl (by simp[lineW,joinW]at hj⊢;omega) ?_);refine(ropen H5.out [[114,111,117,116,101],pfxF x.pa x.pl] (by first|(simp[joinW];done)|rfl) (by decide) (by have:=HM.out;simp only[yA]at this⊢;omega)).mono ?_;rintro e w6 ⟨rfl,h2⟩;have H6:=hid h2;clear h2;clear H5;clear hj;go_upto_block 5 with fail
   go_cut [] (fun wx=>XW ((78,gx,x.C) :: [(41,gr,r.C)]) g 2 (p++lineW 1 [[114,111,117,116,101],pfxF x.pa x.pl] [32,123]++textL 2 (srP 0 x)) w wx)
   case first=>
    have c2:w6.cell? ⟨gx,2,none⟩=some (.int .u32 (x.next:Int)):=H6.out.a.cell 2;have c3:w6.cell? ⟨gx,3,none⟩=some (.string (str x.iface)):=H6.out.a.cell 3;have c4:w6.cell? ⟨gx,4,none⟩=some (.bool x.discard):=H6.out.a.cell 4;rcases goal_ways gw with⟨g1,g2⟩|⟨g1,g3,g2⟩|⟨g1,g3,g2⟩
    ·have E:textL 2 (srP 0 x)=lineW 2 [[100,105,115,99,97,114,100]] [59]:=by rw[show srP 0 x=[goalN x]from rfl,g2,zAz,zAn]
     have hj:(lineW 2 [[100,105,115,99,97,114,100]] [59]).length≤140737488355328:=(by rw[←E];have:=HM.out;simp only[yA]at this⊢;omega);rw[g1]at c4;go_wp2_with (refine zAf rfl rfl rfl rfl (by simp[lineW,joinW]at hj⊢;omega) ?_);refine(rput H6.out [[100,105,115,99,97,114,100]] (by first|(simp[joinW];done)|rfl) (by decide) (by rw[←E];have:=HM.out;simp only[yA]at this⊢;omega)).mono ?_;rintro e w2 ⟨rfl,h2⟩;have H2:=hid h2;clear h2;go_wp2;go_meet;rw[E];exact H2.out
    ·have E:textL 2 (srP 0 x)=lineW 2 [[105,110,116,101,114,102,97,99,101],x.iface] [59]:=by rw[show srP 0 x=[goalN x]from rfl,g2,zAz,zAn]
     have hj:(lineW 2 [[105,110,116,101,114,102,97,99,101],x.iface] [59]).length≤140737488355328:=(by rw[←E];have:=HM.out;simp only[yA]at this⊢;omega);rw[g1]at c4;have hs:=zEx (x:=x.iface) (by rw[g3];rfl);go_wp2_with (refine zAf rfl rfl rfl rfl (by simp[lineW,joinW]at hj⊢;omega) ?_);refine(rput H6.out [[105,110,116,101,114,102,97,99,101],x.iface] (by first|(simp[joinW];done)|rfl) (by decide) (by rw[←E];have:=HM.out;simp only[yA]at this⊢;omega)).mono ?_;rintro e w2 ⟨rfl,h2⟩;have H2:=hid h2;clear h2;go_wp2;go_meet;rw[E];exact H2.out
    ·have E:textL 2 (srP 0 x)=lineW 2 [[110,101,120,116,45,104,111,112],fmtA x.next] [59]:=by rw[show srP 0 x=[goalN x]from rfl,g2,zAz,zAn]
     have hj:(lineW 2 [[110,101,120,116,45,104,111,112],fmtA x.next] [59]).length≤140737488355328:=(by rw[←E];have:=HM.out;simp only[yA]at this⊢;omega);rw[g1]at c4;have hs:=zEy (x:=x.iface) (by rw[g3];rfl);go_wp2_with (refine zAf rfl rfl rfl rfl (by simp[lineW,joinW]at hj⊢;omega) ?_);refine(zEf x.next _ f2).mono ?_;rintro e w1 ⟨rfl,rfl⟩;go_wp2_with (refine zAf rfl rfl rfl rfl (by simp[lineW,joinW]at hj⊢;omega) ?_);refine(rput H6.out [[110,101,120,116,45,104,111,112],fmtA x.next] (by first|(simp[joinW];done)|rfl) (by decide) (by rw[←E];have:=HM.out;simp only[yA]at this⊢;omega)).mono ?_;rintro e w2 ⟨rfl,h2⟩;have H2:=hid h2;clear h2;go_wp2;go_meet;rw[E];exact H2.out
   case rest=>
   clear H6;have H:=hid hcut;clear hcut;have c5:wc.cell? ⟨gx,5,none⟩=some (.int .i64 x.admin):=H.out.a.cell 5;have E7:textL 2 (srP 1 x)=lineW 2 [[112,114,101,102,101,114,101,110,99,101],decI x.admin] [59]:=by rw[show srP 1 x=[stn [[112,114,101,102,101,114,101,110,99,101],decI x.admin]]from rfl,zAz,zAn]
   have hj:(lineW 2 [[112,114,101,102,101,114,101,110,99,101],decI x.admin] [59]).length≤140737488355328:=(by rw[←E7];have:=HM.out;simp only[yA]at this⊢;omega);go_wp2_with (refine zAf rfl rfl rfl rfl (by simp[lineW,joinW]at hj⊢;omega) ?_);refine(zBy x.admin _ (by omega) (by omega)).mono ?_;rintro e w1 ⟨rfl,rfl⟩;go_wp2_with (refine zAf rfl rfl rfl rfl (by simp[lineW,joinW]at hj⊢;omega) ?_);refine(rput H.out [[112,114,101,102,101,114,101,110,99,101],decI x.admin] (by first|(simp[joinW];done)|rfl) (by decide) (by rw[←E7];have:=HM.out;simp only[yA]at this⊢;omega)).mono ?_;rintro e w7 ⟨rfl,h2⟩;rw[←E7]at h2;have H7:=hid h2;clear h2 hj E7;clear H c5;have c6:w7.cell? ⟨gx,6,none⟩=some (.int .i64 x.tag):=H7.out.a.cell 6;go_upto_if 144 with fail
   go_cut [] (fun wx=>XW ((78,gx,x.C) :: [(41,gr,r.C)]) g 2 (p++lineW 1 [[114,111,117,116,101],pfxF x.pa x.pl] [32,123]++textL 2 (srP 0 x)++textL 2 (srP 1 x)++textL 2 (srP 2 x)) w wx)
   case first=>
    cases hc:(!(x.tag==0))with
    |true=>
     have E:textL 2 (srP 2 x)=lineW 2 [[116,97,103],decI x.tag] [59]:=zAq hc;have hj:(lineW 2 [[116,97,103],decI x.tag] [59]).length≤140737488355328:=(by rw[←E];have:=HM.out;simp only[yA]at this⊢;omega);have hs:(x.tag != 0)=true:=hc;rw[hs];go_wp2_with (refine zAf rfl rfl rfl rfl (by simp[lineW,joinW]at hj⊢;omega) ?_);refine(zBy x.tag _ k3 (by omega)).mono ?_;rintro e w1 ⟨rfl,rfl⟩;go_wp2_with (refine zAf rfl rfl rfl rfl (by simp[lineW,joinW]at hj⊢;omega) ?_);refine(rput H7.out [[116,97,103],decI x.tag] (by first|(simp[joinW];done)|rfl) (by decide) (by rw[←E];have:=HM.out;simp only[yA]at this⊢;omega)).mono ?_;rintro e w2 ⟨rfl,h2⟩;have H2:=hid h2;clear h2;go_wp2;go_meet;rw[E];exact H2.out
    |false=>
     have hs:(x.tag != 0)=false:=hc;rw[hs];go_wp2;go_meet;rw[show textL 2 (srP 2 x)=[]from zAl hc,yF];exact H7.out
   case rest=>
   clear H7 c6;have H:=hid hcut;clear hcut;go_wp2_with (refine zAf rfl rfl rfl rfl (by simp[lineW,joinW]at hj⊢;omega) ?_);refine(zFh H.out (by decide) (by have:=HM.out;simp only[yA]at this⊢;omega)).mono ?_;rintro e w8 ⟨rfl,h2⟩;have H8:=hid h2;clear h2;clear H;go_wp2;go_roundg (l'.length - (k+1));case measure=>omega
   case rel=>
    refine⟨k+1,by omega,by go_num,hid ?_⟩;have:=H8.out.pop;rw[hp]at this;rw[ET.out];rw[HU.out];simpa only[yE] using this
end Go.Proofs.YtdlgnhefpoalnaaGreatDoor
