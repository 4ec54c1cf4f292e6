/- The walk of checkStatics. Conditions: the router lies in memory, addresses are numbers below 2^32. -/
import Derived.Test.YthcnojmldldpeaaGreatDoorGw
import Derived.Test.YthcnojmldldpeaaGreatDoorGy
import Derived.Test.YthcnojmldldpeaaGreatDoorGv
set_option maxHeartbeats 8000000
set_option maxRecDepth 100000
namespace Go.Proofs.YthcnojmldldpeaaGreatDoor
open Lib (hid)
open Go.RowKit
def allP(lo hi:Int):Bool:=decide (lo=0∧hi=65535)
def zCp(x:Ru):Bool:=zAb x.proto (-1) 255&&x.sa &&& x.sm==0&&x.da &&& x.dm==0&&zEm x.slo x.shi&&zEm x.dlo x.dhi&&(x.proto==6||x.proto==17||(allP x.slo x.shi&&allP x.dlo x.dhi))
theorem rng_eqlP(a b:Int)(w:World):(binOp .eql 101 (.agg #[.int .i64 a,.int .i64 b]) (.agg #[.int .i64 0,.int .i64 65535])).run Tryz.prog w=.ok (.bool (allP a b)) w:=rng_eql a b 0 65535 w
theorem rightRule_any(x:Ru)(hx:x.fit)(w:World):Calls Tryz.prog 88 #[.agg x.C] w fun e w' => e=.returned (.bool (zCp x))∧Below w.heap.size w w' := by
 have H0:=hid (HasC.new w 103 x.C);have B0:=hid ((Below.refl w.heap.size w).alloc (Nat.le_refl _) (.cells x.C 103));have HW:=hid (fun n lo hi w=>zAr n lo hi w);have P1:=hid (fun w=>zHn x.slo x.shi w);have P2:=hid (fun w=>zHn x.dlo x.dhi w);obtain⟨f1,f2,f3,f4⟩:=hx;have E:Hid (zCp x=(zAb x.proto (-1) 255&&x.sa &&& x.sm==0&&x.da &&& x.dm==0&&zEm x.slo x.shi&&zEm x.dlo x.dhi&&(x.proto==6||x.proto==17||(allP x.slo x.shi&&allP x.dlo x.dhi)))):=hid rfl;obtain⟨n1,hn1⟩:∃n,x.sa &&& x.sm=n:=⟨_,rfl⟩;obtain⟨n2,hn2⟩:∃n,x.da &&& x.dm=n:=⟨_,rfl⟩;have b1:bits .and .u32 (x.sa:Int) (x.sm:Int)=(n1:Int):=by rw[←hn1];exact u32_and_nat _ _ f1 f2
 have b2:bits .and .u32 (x.da:Int) (x.dm:Int)=(n2:Int):=by rw[←hn2];exact u32_and_nat _ _ f3 f4
 rw[hn1,hn2]at E;clear hn1 hn2 f1 f2 f3 f4;generalize zCp x=res at E⊢;unfold Ru.C at H0 B0⊢;obtain⟨permit,proto,sa,sm,da,dm,slo,shi,dlo,dhi⟩:=x;dsimp only at *;go_enter Tryz.func88,Tryz.ntmps88;cases h1:zAb proto (-1) 255 with
 |false=>
  go_wp2_with (go_at_call 27;refine(HW.out _ _ _ _).mono ?_;rintro e w' ⟨rfl,rfl⟩);go_ret;exact⟨zAg (by rw[E.out,h1];rfl),B0.out⟩
 |true=>
 by_cases h2:n1=0;case neg=>
  have d1:((n1:Int) != 0)=true:=by simp;omega
  have d2:(n1==0)=false:=by simpa using h2
  go_wp2_with (go_at_call 27;refine(HW.out _ _ _ _).mono ?_;rintro e w' ⟨rfl,rfl⟩);go_ret;exact⟨zAg (by rw[E.out,d2];simp),B0.out⟩
 subst h2;by_cases h3:n2=0;case neg=>
  have d1:((n2:Int) != 0)=true:=by simp;omega
  have d2:(n2==0)=false:=by simpa using h3
  go_wp2_with (go_at_call 27;refine(HW.out _ _ _ _).mono ?_;rintro e w' ⟨rfl,rfl⟩);go_ret;exact⟨zAg (by rw[E.out,d2];simp),B0.out⟩
 subst h3;have E2:Hid (res=(zEm slo shi&&zEm dlo dhi&&(proto==6||proto==17||(allP slo shi&&allP dlo dhi)))):=hid (by rw[E.out,h1];rfl);clear E;go_wp2_with (first|(go_at_call 27;refine(HW.out _ _ _ _).mono ?_;rintro e w' ⟨rfl,rfl⟩));clear h1;refine(P1.out _).mono ?_;rintro e w1 ⟨rfl,hb⟩;have H1:=hid (H0.out.keep hb);have B1:=hid (B0.out.trans (hb.mono (by simp)));clear hb H0 B0;cases h4:zEm slo shi with
 |false=>
  go_wp2;go_ret;exact⟨zAg (by rw[E2.out,h4];rfl),B1.out⟩
 |true=>
 have c8:=cl8 H1.out;have c9:=cl9 H1.out;go_wp2_with fail;refine(P2.out _).mono ?_;rintro e w2 ⟨rfl,hb⟩;have H2:=hid (H1.out.keep hb);have B2:=hid (B1.out.trans (hb.mono B1.out.size));clear hb H1 B1 c8 c9;cases h5:zEm dlo dhi with
 |false=>
  go_wp2;go_ret;exact⟨zAg (by rw[E2.out,h4,h5];rfl),B2.out⟩
 |true=>
 have E3:Hid (res=(proto==6||proto==17||(allP slo shi&&allP dlo dhi))):=hid (by rw[E2.out,h4,h5];rfl);clear E2 h4 h5;have H3:=H2.out.keep ((Below.refl _ w2).alloc (Nat.le_refl _) (.cells #[.int .i64 0,.int .i64 65535] 101));have B3:=hid (B2.out.alloc B2.out.size (.cells #[.int .i64 0,.int .i64 65535] 101));obtain⟨-,c1,-,-,-,-,c6,c7,c8,c9⟩:=bl10 H3;have g:=Tryz.rngGuard;have r1:∀w,(binOp .eql 101 (.agg #[.int .i64 slo,.int .i64 shi]) (.agg #[.int .i64 0,.int .i64 65535])).run Tryz.prog w=.ok (.bool (allP slo shi)) w:=fun w=>rng_eqlP slo shi w
 have r2:∀w,(binOp .eql 101 (.agg #[.int .i64 dlo,.int .i64 dhi]) (.agg #[.int .i64 0,.int .i64 65535])).run Tryz.prog w=.ok (.bool (allP dlo dhi)) w:=fun w=>rng_eqlP dlo dhi w
 clear H3 H2 B2;by_cases h6:proto=6
 ·subst h6
  go_wp2;go_ret;exact⟨zAg (by rw[E3.out];rfl),B3.out⟩
 have d6:(proto==6)=false:=by simpa using h6
 by_cases h17:proto=17
 ·subst h17
  go_wp2;go_ret;exact⟨zAg (by rw[E3.out];rfl),B3.out⟩
 have d17:(proto==17)=false:=by simpa using h17
 cases ha:allP slo shi with
 |false=>
  rw[ha]at r1;go_wp2;go_ret;exact⟨zAg (by rw[E3.out,d6,d17,ha];rfl),B3.out⟩
 |true=>
  rw[ha]at r1;go_wp2;go_ret;exact⟨zAg (by rw[E3.out,d6,d17,ha];rfl),B3.out⟩
def zCw(x y:If):Bool:=!(x.len==0) && !(y.len==0)&&overP (x.addr / sz x.len*sz x.len) (zBc x.len) (y.addr / sz y.len*sz y.len) (zBc y.len)
def ifsGo(all:List If):List If→Nat→Int
 |[],_=>0
 |x :: r,k=>if !nameB x.name then 3 else if idxF (fun y=>y.name==x.name) all 0<k then 4 else if !zCs x then 1 else if(all.take k).any (zCw x)then 6 else ifsGo all r (k+1)
def ifsE(l:List If):Int:=if 8<l.length then 7 else ifsGo l l 0
theorem zHq{α:Type}{l:List α}{k:Nat}(h:k<l.length):l.drop k=l[k] :: l.drop (k+1):=(List.getElem_cons_drop h).symm
theorem ifsGo_at{all:List If}{k:Nat}{R:Int}(h:k<all.length)(hR:ifsGo all (all.drop k) k=R) :
  R=if !nameB all[k].name then 3 else if idxF (fun y=>y.name==all[k].name) all 0<k then 4 else if !zCs all[k]then 1 else if(all.take k).any (zCw all[k])then 6 else ifsGo all (all.drop (k+1)) (k+1):=by
 rw[zHq h,ifsGo]at hR;exact hR.symm
theorem ifsGo_end{all:List If}{k:Nat}{R:Int}(h:¬k<all.length)(hR:ifsGo all (all.drop k) k=R):R=0:=by
 rw[List.drop_of_length_le (by omega),ifsGo]at hR;exact hR.symm
theorem any_at{α:Type}{l:List α}{p:α→Bool}{j:Nat}(h:j<l.length):(l.drop j).any p=(p l[j]||(l.drop (j+1)).any p):=by rw[zHq h,List.any_cons]
theorem net_lt{a:Nat}{n:Int}(h:a<4294967296):a / sz n*sz n<4294967296:=Nat.lt_of_le_of_lt (Nat.div_mul_le_self _ _) h
structure RB (r:Rt) (w0 w:World):Prop where
 h:HasC 41 w0.heap.size r.C w
 b:Below w0.heap.size w0 w
theorem RB.keep{r:Rt}{w0 w w' : World}(h:RB r w0 w)(hb:Below w.heap.size w w'):RB r w0 w' := ⟨h.h.keep hb,h.b.trans (hb.mono h.b.size)⟩
theorem RB.start(r:Rt)(w:World):RB r w (w.alloc (.cells r.C 41)):=⟨HasC.new w _ _,(Below.refl _ _).alloc (Nat.le_refl _) _⟩
def RX(r:Rt)(x y:If)(gx gy:Nat)(w0 w:World):Prop:=w.cell? ⟨gx,1,none⟩=some (.int .u32 (x.addr:Int))∧w.cell? ⟨gx,2,none⟩=some (.int .i64 x.len)∧w.cell? ⟨gy,1,none⟩=some (.int .u32 (y.addr:Int))∧w.cell? ⟨gy,2,none⟩=some (.int .i64 y.len)∧RB r w0 w∧HasC 68 gx x.C w
theorem RX.keep{r:Rt}{x y:If}{gx gy:Nat}{w0 w w' : World}(h:RX r x y gx gy w0 w)(hb:Below w.heap.size w w'):RX r x y gx gy w0 w' := by
 obtain⟨h1,h2,h3,h4,h5,h6⟩:=h;exact⟨(hb.cell (World.block_lt_of_cell? _ _ h1)).trans h1,(hb.cell (World.block_lt_of_cell? _ _ h2)).trans h2,(hb.cell (World.block_lt_of_cell? _ _ h3)).trans h3,(hb.cell (World.block_lt_of_cell? _ _ h4)).trans h4,h5.keep hb,h6.keep hb⟩
theorem zHp(r:Rt)(w:World)(B:Nat)(h:r.at w B)(hB:B≤w.heap.size)(hf:∀x∈r.ifs,x.fit):Calls Tryz.prog 28 #[.agg r.C] w fun e w' => e=.returned (.int .i64 (ifsE r.ifs))∧Below w.heap.size w w' := by
 have H0:=hid (RB.start r w);have HF:=hid hf;have HR:=hid h;have HBB:=hid hB;obtain⟨A,c,hv,hle,-⟩:=h.hifs;have HL:Hid (∀w', RB r w w' → w'.cell? ⟨w.heap.size,2,none⟩=some (.slice A r.ifs.length c)):=hid (fun w' h=>by rw[←hv];exact h.h.cell 2);have HV:=hid hv;clear h hf hv hB;have c2:=HL.out _ H0.out;by_cases h8:8<r.ifs.length
 ·have E:Hid (ifsE r.ifs=7):=hid (by unfold ifsE;rw[if_pos h8])
  go_enter Tryz.func28,Tryz.ntmps28;go_wp2;go_ret;exact⟨zAc E.out.symm,H0.out.b⟩
 have d8:decide ((8:Int)<r.ifs.length)=false:=by simp;omega
 have E:Hid (ifsGo r.ifs r.ifs 0=ifsE r.ifs):=hid (by unfold ifsE;rw[if_neg h8]);go_enter Tryz.func28,Tryz.ntmps28;go_wp2_with fail;clear c2 d8;go_loopg [14] r.ifs.length (fun gh ix wr=>∃k:Nat,k+gh=r.ifs.length∧ix=.int .i64 k∧Hid (RB r w wr)∧Hid (ifsGo r.ifs (r.ifs.drop k) k=ifsE r.ifs));case atStart=>exact⟨0,by omega,rfl,H0,E⟩
 case round=>
  obtain⟨k,hk,rfl,HW,HG⟩:=hrel;clear H0 E;by_cases hlt:k<r.ifs.length;case neg=>
   have E:=hid (ifsGo_end hlt HG.out);go_wp2;go_ret;exact⟨zAc E.out.symm,HW.out.b⟩
  have HAT:=hid (ifsGo_at hlt HG.out);obtain⟨g,o,c', e',-,hg,R0⟩:=(HR.out.hifs).elem (n:=12) (by decide) (fun _=>rfl) hlt;rw[HV.out]at e';injection e' with e1 e2 e3
  subst e1 e3;have R1:=hid (fun w' (hb:Below w.heap.size w w')=>zAf R0 (hb.mono HBB.out) hg);have FX:=hid (HF.out _ (List.getElem_mem hlt));clear R0 HG e2;generalize hx:r.ifs[k]=x at HAT R1 FX;replace hx:=hid hx;have r1:=hid (R1.out _ HW.out.b);go_wp2_with (first|(refine zAa rfl 68 _ rfl rfl r1.out Tryz.rowIf Tryz.sizeIf ?_)|(refine zAd rfl 68 _ _ rfl rfl rfl (HasC.new wr _ _) rfl Tryz.sizeIf (If.one x) ?_;intro w2 hz1 hz2;have c0:w2.cell? ⟨wr.heap.size,0,none⟩=some (.string (str x.name)):=hz1.cell 0));have B2:=zAi hz2;have H2:=hid (HW.out.keep B2);have X2:=hz1;clear hz1 hz2 r1 c0;generalize wr.heap.size=gx at X2⊢;replace X2:=hid X2;refine(nameL x.name _).mono ?_;rintro e w' ⟨rfl,rfl⟩;cases hn:nameB x.name with
  |false=>
   go_wp2;go_ret;exact⟨zAc (by rw[HAT.out,hn];rfl),H2.out.b⟩
  |true=>
  have HNM:=hid hn;clear hn;have c0:=cl0 X2.out;go_wp2_with (first|(refine zAa rfl 41 _ rfl rfl H2.out.h.range Tryz.rowRt Tryz.sizeRt ?_));clear c0;refine(zGs r x.name w2 B (HR.out.below (H2.out.b.mono HBB.out)) (Nat.le_trans HBB.out H2.out.b.size)).mono ?_;rintro e w3 ⟨rfl,hb⟩;have H3:=hid (H2.out.keep hb);have X3:=hid (X2.out.keep hb);clear hb H2 X2;by_cases hi:idxF (fun y=>y.name==x.name) r.ifs 0<k
  ·have di:=decide_eq_true hi
   have E:=hid hi;clear hi;go_wp2;go_ret;exact⟨zAc (by rw[HAT.out,HNM.out,if_neg (by simp),if_pos E.out]),H3.out.b⟩
  have di:=decide_eq_false hi;have HI:=hid hi;clear hi;go_wp2_with (first|(refine zAa rfl 68 _ rfl rfl X3.out.range Tryz.rowIf Tryz.sizeIf ?_));clear di;refine(zIn x _).mono ?_;rintro e w4 ⟨rfl,hb⟩;have H4:=hid (H3.out.keep hb);have X4:=hid (X3.out.keep hb);clear hb H3 X3;cases hr:zCs x with
  |false=>
   go_wp2;go_ret;exact⟨zAc (by rw[HAT.out,HNM.out,if_neg (by simp),if_neg (Int.not_lt.2 HI.out),hr];rfl),H4.out.b⟩
  |true=>
  have HAN:Hid (ifsE r.ifs=if(r.ifs.take k).any (zCw x)then 6 else ifsGo r.ifs (r.ifs.drop (k+1)) (k+1)):=hid (by rw[HAT.out,HNM.out,if_neg (by simp),if_neg (Int.not_lt.2 HI.out),hr];rfl);clear hr HAT HNM HI;have c2:=HL.out _ H4.out;go_wp2_with fail;clear c2;go_loopg [37] k (fun gh ix wq=>∃j:Nat,j+gh=k∧ix=.int .i64 j∧Hid (RB r w wq)∧Hid (HasC 68 gx x.C wq)∧Hid ((r.ifs.take k).any (zCw x)=((r.ifs.take k).drop j).any (zCw x)));case atStart=>exact⟨0,by omega,rfl,H4,X4,hid rfl⟩
  case round=>
   obtain⟨j,hj,rfl,HQ,XQ,HAY⟩:=hrel;by_cases hjl:j<k;case neg=>
    have E:Hid (ifsE r.ifs=ifsGo r.ifs (r.ifs.drop (k+1)) (k+1)):=hid (by rw[HAN.out,HAY.out,List.drop_of_length_le (by rw[List.length_take];omega)];rfl);go_wp2;go_roundg (r.ifs.length - (k+1));case measure=>omega
    case rel=>exact⟨k+1,by omega,by go_num,HQ,hid E.out.symm⟩
   have hjn:j<r.ifs.length:=by omega
   obtain⟨g', o', c'', e',-,hg', R0⟩:=(HR.out.hifs).elem (n:=12) (by decide) (fun _=>rfl) hjn;rw[HV.out]at e';injection e' with e1 e2 e3
   injection e1 with e1
   injection e1 with e1 e4
   subst e1 e4;have hty:(r.ifs.take k)[j]'(by rw[List.length_take];omega)=r.ifs[j]:=by rw[List.getElem_take]
   have HST:Hid (((r.ifs.take k).drop j).any (zCw x)=(zCw x r.ifs[j]||((r.ifs.take k).drop (j+1)).any (zCw x))):=hid (by rw[any_at (by rw[List.length_take];omega),hty]);have FY:=hid (HF.out _ (List.getElem_mem hjn));have r1:=hid (zAf R0 (HQ.out.b.mono HBB.out) hg');clear R0 hty e2 e3;generalize r.ifs[j]=y at HST FY r1;have hjk:(j:Int)<k:=by omega
   go_wp2_with (first|(refine zAa rfl 68 _ rfl rfl r1.out Tryz.rowIf Tryz.sizeIf ?_)|(refine zAd rfl 68 _ _ rfl rfl rfl (HasC.new wr _ _) rfl Tryz.sizeIf (If.one y) ?_;intro w5 hz1 hz2));have B5:=zAi hz2;have Y5:=hz1;have S0:RX r x y gx wr.heap.size w w5.drew:=⟨((XQ.out.keep B5).keep (zAs _)).cell 1,((XQ.out.keep B5).keep (zAs _)).cell 2,(hz1.keep (zAs _)).cell 1,(hz1.keep (zAs _)).cell 2,(HQ.out.keep B5).keep (zAs _),(XQ.out.keep B5).keep (zAs _)⟩;have HS0:=hid S0;clear hz1 hz2 B5 Y5 S0 r1 HQ XQ;have PX:=hid (fun w1=>network_any x.addr x.len w1 FX.out);have PY:=hid (fun w1=>network_any y.addr y.len w1 FY.out);have PO:=hid (fun w1=>zJv (x.addr / sz x.len*sz x.len) (zBc x.len) (y.addr / sz y.len*sz y.len) (zBc y.len) w1 (net_lt FX.out) (net_lt FY.out));have CL:Hid (zCw x y=(!(x.len==0) && !(y.len==0)&&overP (x.addr / sz x.len*sz x.len) (zBc x.len) (y.addr / sz y.len*sz y.len) (zBc y.len))):=hid rfl;unfold PV at PX PY PO;generalize x.addr / sz x.len*sz x.len=px at PX PO CL;generalize y.addr / sz y.len*sz y.len=py at PY PO CL;generalize (zBc x.len:Int)=nx at PX PO CL;generalize (zBc y.len:Int)=ny at PY PO CL;have XC:Hid (∀W,RX r x y gx wr.heap.size w W→W.cell? ⟨gx,1,none⟩=some (.int .u32 (x.addr:Int))∧W.cell? ⟨gx,2,none⟩=some (.int .i64 x.len)∧W.cell? ⟨wr.heap.size,1,none⟩=some (.int .u32 (y.addr:Int))∧W.cell? ⟨wr.heap.size,2,none⟩=some (.int .i64 y.len)):=hid (fun W h=>⟨h.1,h.2.1,h.2.2.1,h.2.2.2.1⟩);generalize x.len=xl at XC CL PX;generalize y.len=yl at XC CL PY
   have NE:xl=0∨(xl==0)=false∧(xl != 0)=true∧yl=0∨(xl==0)=false∧(xl != 0)=true∧(yl==0)=false∧(yl != 0)=true:=by
    by_cases h1:xl=0
    ·exact .inl h1
    by_cases h2:yl=0
    ·exact .inr (.inl ⟨by simpa using h1,by simpa using h1,h2⟩)
    exact .inr (.inr ⟨by simpa using h1,by simpa using h1,by simpa using h2,by simpa using h2⟩)
   refine zAo (fun W=>RX r x y gx wr.heap.size w W) (by kernel_rfl) (by kernel_rfl) HS0.out ?_;rcases NE with rfl|⟨n1,n1', rfl⟩|⟨n1,n1', n2,n2'⟩
   all_goals
    repeat
     (first
      |(refine zIs ?_ ?_;(· rfl))
      |(refine zBd (v:=?_) ?_ ?_ ?_;rotate_left;(· rfl);(· (intro W hW;obtain⟨q1,q2,q3,q4⟩:=XC.out W hW;go_simp<;>rfl)))
      |(refine zAm ?_ ?_ (fun W hW=>(PX.out W).mono fun e w' ⟨he,hb⟩=>⟨he,RX.keep hW hb⟩) ?_;(· rfl);(· (intro W hW;go_simp<;>rfl)))
      |(refine zAm ?_ ?_ (fun W hW=>(PY.out W).mono fun e w' ⟨he,hb⟩=>⟨he,RX.keep hW hb⟩) ?_;(· rfl);(· (intro W hW;go_simp<;>rfl)))
      |(refine zAm ?_ ?_ (fun W hW=>(PO.out W).mono fun e w' ⟨he,hb⟩=>⟨he,RX.keep hW hb⟩) ?_;(· rfl);(· (intro W hW;go_simp<;>rfl))))
     simp only[Act.put,List.setIfInBounds_toArray,List.set_cons_zero,List.set_cons_succ]
    refine zBo (fun wq hS=>?_);have HF2:=hid hS;clear hS XC PX PY PO HS0
   case' inr.inr=>
    obtain⟨ov,hov⟩:∃ov,overP px nx py ny=ov:=⟨_,rfl⟩;rw[hov];cases ov
    case true=>
     have E6:Hid (ifsE r.ifs=6):=hid (by rw[HAN.out,HAY.out,HST.out,CL.out,hov,n1,n2];rfl);go_wp2;go_ret;exact⟨zAc E6.out.symm,HF2.out.2.2.2.2.1.b⟩
    have C0:Hid (zCw x y=false):=hid (by rw[CL.out,hov,n1,n2];rfl)
   case' inl=>have C0:Hid (zCw x y=false):=hid (by rw[CL.out];rfl)
   case' inr.inl=>have C0:Hid (zCw x y=false):=hid (by rw[CL.out,n1];rfl)
   all_goals
    have EN:Hid ((r.ifs.take k).any (zCw x)=((r.ifs.take k).drop (j+1)).any (zCw x)):=hid (by rw[HAY.out,HST.out,C0.out];rfl);go_wp2;go_roundg (k - (j+1));case measure=>omega
    case rel=>exact⟨j+1,by omega,by go_num,hid HF2.out.2.2.2.2.1,hid HF2.out.2.2.2.2.2,EN⟩
def zAl{β:Type}(f:β→Int):List β→Int
 |[]=>0
 |y :: r=>if f y=0 then zAl f r else f y
theorem zEd{β:Type}{f:β→Int}{l:List β}{j:Nat}{R:Int}(h:j<l.length)(hR:zAl f (l.drop j)=R):R=if f l[j]=0 then zAl f (l.drop (j+1))else f l[j]:=by
 rw[zHq h,zAl]at hR;exact hR.symm
theorem zDm{β:Type}{f:β→Int}{l:List β}{j:Nat}{R:Int}(h:¬j<l.length)(hR:zAl f (l.drop j)=R):R=0:=by
 rw[List.drop_of_length_le (by omega),zAl]at hR;exact hR.symm
def lsGo{α:Type}(name:α→List UInt8)(len:α→Nat)(inner:α→Int)(most:Int)(all:List α):List α→Nat→Int
 |[],_=>0
 |x :: r,k=>if listE k (idxF (fun y=>name y==name x) all 0) (name x) (len x) most=0 then(if inner x=0 then lsGo name len inner most all r (k+1)else inner x)else listE k (idxF (fun y=>name y==name x) all 0) (name x) (len x) most
def lsE{α:Type}(name:α→List UInt8)(len:α→Nat)(inner:α→Int)(most:Int)(l:List α):Int:=if 8<l.length then 7 else lsGo name len inner most l l 0
theorem zIc{α:Type}{name:α→List UInt8}{len:α→Nat}{inner:α→Int}{most:Int}{all:List α}{k:Nat}{R:Int}(h:k<all.length)(hR:lsGo name len inner most all (all.drop k) k=R) :
  R=if listE k (idxF (fun y=>name y==name all[k]) all 0) (name all[k]) (len all[k]) most=0 then(if inner all[k]=0 then lsGo name len inner most all (all.drop (k+1)) (k+1)else inner all[k])else listE k (idxF (fun y=>name y==name all[k]) all 0) (name all[k]) (len all[k]) most:=by
 rw[zHq h,lsGo]at hR;exact hR.symm
theorem zHi{α:Type}{name:α→List UInt8}{len:α→Nat}{inner:α→Int}{most:Int}{all:List α}{k:Nat}{R:Int}(h:¬k<all.length)(hR:lsGo name len inner most all (all.drop k) k=R):R=0:=by
 rw[List.drop_of_length_le (by omega),lsGo]at hR;exact hR.symm
def zEg(x:PRule):Bool:=zAv x.pa x.pl && !decide (x.min<x.pl) && !decide (x.max<x.min) && !decide (32<x.max)
def prE(x:PRule):Int:=if zEg x then 0 else 1
def clE(lists:List PList)(c:Cl):Int:=if !c.list.isEmpty&&decide (idxF (fun y=>y.name==c.list) lists 0<0)then 5 else if zCr c then 0 else 1
def ruE(x:Ru):Int:=if zCp x then 0 else 1
def plsE(l:List PList):Int:=lsE (·.name) (·.rules.length) (fun x=>zAl prE x.rules) 16 l
def mapsE(lists:List PList)(l:List RMap):Int:=lsE (·.name) (·.clauses.length) (fun x=>zAl (clE lists) x.clauses) 8 l
def aclsE(l:List AList):Int:=lsE (·.name) (·.rules.length) (fun x=>zAl ruE x.rules) 16 l
theorem zDw{res X F G fy:Int}(h1:res=if F=0 then X else F)(h2:F=if fy=0 then G else fy)(h3:fy≠0):res=fy:=by rw[h1,h2,if_neg h3,if_neg h3]
theorem zCx{F G fy:Int}(h2:F=if fy=0 then G else fy)(h3:fy=0):G=F:=by rw[h2,if_pos h3]
def RLm(r:Rt)(T:TypeId)(name:List UInt8)(v:Value)(gx:Nat)(w0 w:World):Prop:=w.cell? ⟨gx,0,none⟩=some (.string (str name))∧w.cell? ⟨gx,1,none⟩=some v∧RB r w0 w∧HasC T gx #[.string (str name),v] w
theorem RLm.keep{r:Rt}{T:TypeId}{name:List UInt8}{v:Value}{gx:Nat}{w0 w w' : World}(h:RLm r T name v gx w0 w)(hb:Below w.heap.size w w'):RLm r T name v gx w0 w' := by
 obtain⟨h1,h2,h3,h4⟩:=h;exact⟨(hb.cell (World.block_lt_of_cell? _ _ h1)).trans h1,(hb.cell (World.block_lt_of_cell? _ _ h2)).trans h2,h3.keep hb,h4.keep hb⟩
theorem zHj(r:Rt)(w:World)(B:Nat)(h:r.at w B)(hB:B≤w.heap.size)(hf:∀x∈r.lists,x.fit):Calls Tryz.prog 29 #[.agg r.C] w fun e w' => e=.returned (.int .i64 (plsE r.lists))∧Below w.heap.size w w' := by
 have H0:=hid (RB.start r w);have HR:=hid h;have HBB:=hid hB;have HF:=hid hf;clear hf;obtain⟨A,c,hv,hle,-⟩:=h.hlists;have HL:Hid (∀w', RB r w w' → w'.cell? ⟨w.heap.size,3,none⟩=some (.slice A r.lists.length c)):=hid (fun w' h=>by rw[←hv];exact h.h.cell 3);have HV:=hid hv;clear h hv hB;have c2:=HL.out _ H0.out;obtain⟨res,hres⟩:∃res,plsE r.lists=res:=⟨_,rfl⟩;rw[hres];by_cases h8:8<r.lists.length
 ·have E:Hid (res=7):=hid (by rw[←hres];exact if_pos h8)
  clear hres;go_enter Tryz.func29,Tryz.ntmps29;go_wp2;go_ret;exact⟨zAc E.out.symm,H0.out.b⟩
 have d8:decide ((8:Int)<r.lists.length)=false:=by simp;omega
 have E:Hid (lsGo (·.name) (·.rules.length) (fun(x:PList)=>zAl prE x.rules) 16 r.lists r.lists 0=res):=hid (by rw[←hres];exact(if_neg h8).symm);clear hres;go_enter Tryz.func29,Tryz.ntmps29;go_wp2_with fail;clear c2 d8;go_loopg [15] r.lists.length (fun gh ix wr=>∃k:Nat,k+gh=r.lists.length∧ix=.int .i64 k∧Hid (RB r w wr)∧Hid (lsGo (·.name) (·.rules.length) (fun(x:PList)=>zAl prE x.rules) 16 r.lists (r.lists.drop k) k=res));case atStart=>exact⟨0,by omega,rfl,H0,E⟩
 case round=>
  obtain⟨k,hk,rfl,HW,HG⟩:=hrel;clear H0 E;by_cases hlt:k<r.lists.length;case neg=>
   have E:=hid (zHi hlt HG.out);go_wp2;go_ret;exact⟨zAc E.out.symm,HW.out.b⟩
  have HAT:=hid (zIc hlt HG.out);obtain⟨g,o,c', e',-,hg,R0⟩:=(HR.out.hlists).elem (n:=2) (by decide) (fun _=>rfl) hlt;rw[HV.out]at e';injection e' with e1 e2 e3
  subst e1 e3;have R1:=hid (zAf R0 (HW.out.b.mono HBB.out) hg);have HN:=hid (HR.out.nlists _ (List.getElem_mem hlt));have FX:=hid (HF.out _ (List.getElem_mem hlt));clear R0 HG e2;generalize r.lists[k]=x at HAT R1 HN FX;obtain⟨xn,xv,xs⟩:=x;dsimp only at HAT HN FX;obtain⟨A2,c2,hv2,hle2,-⟩:=HN.out;dsimp only at hv2 hle2;subst hv2;have k0:wr.cell? ⟨g,o+k*2,none⟩=some (.string (str xn)):=R1.out 0 (.string (str xn)) rfl;obtain⟨-,k1⟩:=rw2 R1.out
  have S0:RLm r 49 xn (.slice A2 xs.length c2) wr.heap.size w (wr.alloc (.cells #[.string (str xn),.slice A2 xs.length c2] 49)).drew:=by
   have hn:=HasC.new wr 49 #[.string (str xn),.slice A2 xs.length c2];have hn2:=hn.keep (zAs _);exact⟨hn2.cell 0,hn2.cell 1,(HW.out.keep ((Below.refl _ _).alloc (Nat.le_refl _) _)).keep (zAs _),hn2⟩
  have HS0:=hid S0;clear S0 R1;have PL:=hid (fun w1 (hw1:RB r w w1)=>zEb r xn w1 B (HR.out.below (hw1.b.mono HBB.out)) (Nat.le_trans HBB.out hw1.b.size));have PC:=hid (fun w1=>zGp (k:Int) (idxF (fun y=>y.name==xn) r.lists 0) xn (xs.length:Int) 16 w1);go_wp2_with fail;clear k0 k1;generalize hwz:wr.alloc (.cells #[.string (str xn),.slice A2 xs.length c2] 49)=wz at HS0⊢;clear hwz HW;generalize wr.heap.size=gx at HS0⊢;refine zAo (fun W=>RLm r 49 xn (.slice A2 xs.length c2) gx w W) (by kernel_rfl) (by kernel_rfl) HS0.out ?_
  repeat
   (first
    |refine zGd (zGc (by rfl) 41 _ rfl rfl (fun W hW=>hW.2.2.1.h.range) Tryz.rowRt Tryz.sizeRt) ?_
    |(refine zBd (v:=?_) ?_ ?_ ?_;rotate_left;(· rfl);(· (intro W hW;obtain⟨x0,x1,-,-⟩:=hW;go_simp<;>rfl)))
    |(refine zAm ?_ ?_ (fun W hW=>(PL.out W hW.2.2.1).mono fun e w' ⟨he,hb⟩=>⟨he,RLm.keep hW hb⟩) ?_;(· rfl);(· (intro W hW;go_simp<;>rfl)))
    |(refine zAm ?_ ?_ (fun W hW=>(PC.out W).mono fun e w' ⟨he,hb⟩=>⟨he,hb ▸ hW⟩) ?_;(· rfl);(· (intro W hW;go_simp<;>rfl))))
   simp only[Act.put,List.setIfInBounds_toArray,List.set_cons_zero,List.set_cons_succ]
  refine zBo (fun wb hHeld=>?_);clear PL PC HS0;have H3:=hid hHeld;clear hHeld;by_cases he:listE (k:Int) (idxF (fun y=>y.name==xn) r.lists 0) xn (xs.length:Int) 16=0;case neg=>
   have E:Hid (res=listE (k:Int) (idxF (fun y=>y.name==xn) r.lists 0) xn (xs.length:Int) 16):=hid (by rw[HAT.out,if_neg he]);generalize listE (k:Int) (idxF (fun y=>y.name==xn) r.lists 0) xn (xs.length:Int) 16=le at *;have dn:(le != 0)=true:=by simpa using he
   clear HAT;go_wp2;go_ret;exact⟨zAc E.out.symm,H3.out.2.2.1.b⟩
  have HAN:Hid (res=if zAl prE xs=0 then lsGo (·.name) (·.rules.length) (fun(x:PList)=>zAl prE x.rules) 16 r.lists (r.lists.drop (k+1)) (k+1)else zAl prE xs):=hid (by rw[HAT.out,if_pos he]);rw[he];clear he HAT;have c1:=H3.out.2.1;have hlen:xs.length≤9223372036854775807:=by have:=HN.out.len;simp only[maxLen]at this;exact Nat.le_trans this (by omega)
  go_wp2_with fail;clear c1;go_loopg [37] xs.length (fun gh ix wq=>∃j:Nat,j+gh=xs.length∧ix=.int .i64 j∧Hid (RB r w wq)∧Hid (zAl prE (xs.drop j)=zAl prE xs));case atStart=>exact⟨0,by omega,rfl,hid H3.out.2.2.1,hid rfl⟩
  case round=>
   obtain⟨j,hj,rfl,HQ,HAY⟩:=hrel;by_cases hjl:j<xs.length;case neg=>
    have E0:=zDm hjl HAY.out;have E:Hid (lsGo (·.name) (·.rules.length) (fun(x:PList)=>zAl prE x.rules) 16 r.lists (r.lists.drop (k+1)) (k+1)=res):=hid (by rw[HAN.out,if_pos E0]);clear E0;go_wp2;go_roundg (r.lists.length - (k+1));case measure=>omega
    case rel=>exact⟨k+1,by omega,by go_num,HQ,E⟩
   have HYT:=hid (zEd hjl HAY.out);obtain⟨g', o', c'', e',-,hg', R0⟩:=HN.out.elem (n:=5) (by decide) (fun _=>rfl) hjl;dsimp only at e';injection e' with e1 e2 e3
   subst e1 e3;have r1:=hid (zAf R0 (HQ.out.b.mono HBB.out) hg');have FY:=hid (FX.out _ (List.getElem_mem hjl));clear R0 e2;generalize xs[j]=y at HYT r1 FY;go_wp2_with (first|(refine zAa rfl 92 _ rfl rfl r1.out Tryz.rowPRule Tryz.sizePRule ?_)|(refine zAd rfl 92 _ _ rfl rfl rfl (HasC.new wr _ _) rfl Tryz.sizePRule (PRule.one y) ?_;intro w5 hz1 hz2;have y1:w5.cell? ⟨wr.heap.size,1,none⟩=some (.int .u32 (y.pa:Int)):=hz1.cell 1;have y2:w5.cell? ⟨wr.heap.size,2,none⟩=some (.int .i64 y.pl):=hz1.cell 2));have H5:=hid (HQ.out.keep (zAi hz2));have Y5:=hz1;clear hz1 hz2 r1 HQ y1 y2;generalize wr.heap.size=gy at Y5⊢;replace Y5:=hid Y5;refine(zEn y.pa y.pl _ FY.out).mono ?_;rintro e w6 ⟨rfl,hb⟩;have H6:=hid (H5.out.keep hb);have Y6:=hid (Y5.out.keep hb);clear hb H5 Y5;have PE:Hid (prE y=if zEg y then 0 else 1):=hid rfl;have PD:Hid (zEg y=(zAv y.pa y.pl && !decide (y.min<y.pl) && !decide (y.max<y.min) && !decide (32<y.max))):=hid rfl;obtain⟨-,-,y2,y3,y4⟩:=bl5 Y6.out;cases hv:zAv y.pa y.pl with
   |false=>
    have F1:Hid (prE y=1):=hid (by rw[PE.out,PD.out,hv];rfl);have E:Hid (res=1):=hid (zDw HAN.out HYT.out (by rw[F1.out];decide) |>.trans (F1.out));go_wp2;go_ret;exact⟨zAc E.out.symm,H6.out.b⟩
   |true=>
   by_cases h1:y.min<y.pl
   ·have F1:Hid (prE y=1):=hid (by rw[PE.out,PD.out,decide_eq_true h1];simp)
    have d1:=decide_eq_true h1;have E:Hid (res=1):=hid (zDw HAN.out HYT.out (by rw[F1.out];decide) |>.trans (F1.out));go_wp2;go_ret;exact⟨zAc E.out.symm,H6.out.b⟩
   have d1:=decide_eq_false h1;by_cases h2:y.max<y.min
   ·have F1:Hid (prE y=1):=hid (by rw[PE.out,PD.out,decide_eq_true h2];simp)
    have d2:=decide_eq_true h2;have E:Hid (res=1):=hid (zDw HAN.out HYT.out (by rw[F1.out];decide) |>.trans (F1.out));go_wp2;go_ret;exact⟨zAc E.out.symm,H6.out.b⟩
   have d2:=decide_eq_false h2;by_cases h3:32<y.max
   ·have F1:Hid (prE y=1):=hid (by rw[PE.out,PD.out,decide_eq_true h3];simp)
    have d3:=decide_eq_true h3;have E:Hid (res=1):=hid (zDw HAN.out HYT.out (by rw[F1.out];decide) |>.trans (F1.out));go_wp2;go_ret;exact⟨zAc E.out.symm,H6.out.b⟩
   have d3:=decide_eq_false h3;have F0:Hid (prE y=0):=hid (by rw[PE.out,PD.out,hv,d1,d2,d3];rfl);have E:Hid (zAl prE (xs.drop (j+1))=zAl prE xs):=hid (zCx HYT.out (F0.out));go_wp2;go_roundg (xs.length - (j+1));case measure=>omega
   case rel=>exact⟨j+1,by omega,by go_num,H6,E⟩
theorem checkACLs_any(r:Rt)(w:World)(B:Nat)(h:r.at w B)(hB:B≤w.heap.size)(hf:∀x∈r.acls,x.fit):Calls Tryz.prog 31 #[.agg r.C] w fun e w' => e=.returned (.int .i64 (aclsE r.acls))∧Below w.heap.size w w' := by
 have H0:=hid (RB.start r w);have HR:=hid h;have HBB:=hid hB;have HF:=hid hf;clear hf;obtain⟨A,c,hv,hle,-⟩:=h.hacls;have HL:Hid (∀w', RB r w w' → w'.cell? ⟨w.heap.size,5,none⟩=some (.slice A r.acls.length c)):=hid (fun w' h=>by rw[←hv];exact h.h.cell 5);have HV:=hid hv;clear h hv hB;have c2:=HL.out _ H0.out;obtain⟨res,hres⟩:∃res,aclsE r.acls=res:=⟨_,rfl⟩;rw[hres];by_cases h8:8<r.acls.length
 ·have E:Hid (res=7):=hid (by rw[←hres];exact if_pos h8)
  clear hres;go_enter Tryz.func31,Tryz.ntmps31;go_wp2;go_ret;exact⟨zAc E.out.symm,H0.out.b⟩
 have d8:decide ((8:Int)<r.acls.length)=false:=by simp;omega
 have E:Hid (lsGo (·.name) (·.rules.length) (fun(x:AList)=>zAl ruE x.rules) 16 r.acls r.acls 0=res):=hid (by rw[←hres];exact(if_neg h8).symm);clear hres;go_enter Tryz.func31,Tryz.ntmps31;go_wp2_with fail;clear c2 d8;go_loopg [15] r.acls.length (fun gh ix wr=>∃k:Nat,k+gh=r.acls.length∧ix=.int .i64 k∧Hid (RB r w wr)∧Hid (lsGo (·.name) (·.rules.length) (fun(x:AList)=>zAl ruE x.rules) 16 r.acls (r.acls.drop k) k=res));case atStart=>exact⟨0,by omega,rfl,H0,E⟩
 case round=>
  obtain⟨k,hk,rfl,HW,HG⟩:=hrel;clear H0 E;by_cases hlt:k<r.acls.length;case neg=>
   have E:=hid (zHi hlt HG.out);go_wp2;go_ret;exact⟨zAc E.out.symm,HW.out.b⟩
  have HAT:=hid (zIc hlt HG.out);obtain⟨g,o,c', e',-,hg,R0⟩:=(HR.out.hacls).elem (n:=2) (by decide) (fun _=>rfl) hlt;rw[HV.out]at e';injection e' with e1 e2 e3
  subst e1 e3;have R1:=hid (zAf R0 (HW.out.b.mono HBB.out) hg);have HN:=hid (HR.out.nacls _ (List.getElem_mem hlt));have FX:=hid (HF.out _ (List.getElem_mem hlt));clear R0 HG e2;generalize r.acls[k]=x at HAT R1 HN FX;obtain⟨xn,xv,xs⟩:=x;dsimp only at HAT HN FX;obtain⟨A2,c2,hv2,hle2,-⟩:=HN.out;dsimp only at hv2 hle2;subst hv2;have k0:wr.cell? ⟨g,o+k*2,none⟩=some (.string (str xn)):=R1.out 0 (.string (str xn)) rfl;obtain⟨-,k1⟩:=rw2 R1.out
  have S0:RLm r 55 xn (.slice A2 xs.length c2) wr.heap.size w (wr.alloc (.cells #[.string (str xn),.slice A2 xs.length c2] 55)).drew:=by
   have hn:=HasC.new wr 55 #[.string (str xn),.slice A2 xs.length c2];have hn2:=hn.keep (zAs _);exact⟨hn2.cell 0,hn2.cell 1,(HW.out.keep ((Below.refl _ _).alloc (Nat.le_refl _) _)).keep (zAs _),hn2⟩
  have HS0:=hid S0;clear S0 R1;have PL:=hid (fun w1 (hw1:RB r w w1)=>aCL_any r xn w1 B (HR.out.below (hw1.b.mono HBB.out)) (Nat.le_trans HBB.out hw1.b.size));have PC:=hid (fun w1=>zGp (k:Int) (idxF (fun y=>y.name==xn) r.acls 0) xn (xs.length:Int) 16 w1);go_wp2_with fail;clear k0 k1;generalize hwz:wr.alloc (.cells #[.string (str xn),.slice A2 xs.length c2] 55)=wz at HS0⊢;clear hwz HW;generalize wr.heap.size=gx at HS0⊢;refine zAo (fun W=>RLm r 55 xn (.slice A2 xs.length c2) gx w W) (by kernel_rfl) (by kernel_rfl) HS0.out ?_
  repeat
   (first
    |refine zGd (zGc (by rfl) 41 _ rfl rfl (fun W hW=>hW.2.2.1.h.range) Tryz.rowRt Tryz.sizeRt) ?_
    |(refine zBd (v:=?_) ?_ ?_ ?_;rotate_left;(· rfl);(· (intro W hW;obtain⟨x0,x1,-,-⟩:=hW;go_simp<;>rfl)))
    |(refine zAm ?_ ?_ (fun W hW=>(PL.out W hW.2.2.1).mono fun e w' ⟨he,hb⟩=>⟨he,RLm.keep hW hb⟩) ?_;(· rfl);(· (intro W hW;go_simp<;>rfl)))
    |(refine zAm ?_ ?_ (fun W hW=>(PC.out W).mono fun e w' ⟨he,hb⟩=>⟨he,hb ▸ hW⟩) ?_;(· rfl);(· (intro W hW;go_simp<;>rfl))))
   simp only[Act.put,List.setIfInBounds_toArray,List.set_cons_zero,List.set_cons_succ]
  refine zBo (fun wb hHeld=>?_);clear PL PC HS0;have H3:=hid hHeld;clear hHeld;by_cases he:listE (k:Int) (idxF (fun y=>y.name==xn) r.acls 0) xn (xs.length:Int) 16=0;case neg=>
   have E:Hid (res=listE (k:Int) (idxF (fun y=>y.name==xn) r.acls 0) xn (xs.length:Int) 16):=hid (by rw[HAT.out,if_neg he]);generalize listE (k:Int) (idxF (fun y=>y.name==xn) r.acls 0) xn (xs.length:Int) 16=le at *;have dn:(le != 0)=true:=by simpa using he
   clear HAT;go_wp2;go_ret;exact⟨zAc E.out.symm,H3.out.2.2.1.b⟩
  have HAN:Hid (res=if zAl ruE xs=0 then lsGo (·.name) (·.rules.length) (fun(x:AList)=>zAl ruE x.rules) 16 r.acls (r.acls.drop (k+1)) (k+1)else zAl ruE xs):=hid (by rw[HAT.out,if_pos he]);rw[he];clear he HAT;have c1:=H3.out.2.1;have hlen:xs.length≤9223372036854775807:=by have:=HN.out.len;simp only[maxLen]at this;exact Nat.le_trans this (by omega)
  go_wp2_with fail;clear c1;go_loopg [37] xs.length (fun gh ix wq=>∃j:Nat,j+gh=xs.length∧ix=.int .i64 j∧Hid (RB r w wq)∧Hid (zAl ruE (xs.drop j)=zAl ruE xs));case atStart=>exact⟨0,by omega,rfl,hid H3.out.2.2.1,hid rfl⟩
  case round=>
   obtain⟨j,hj,rfl,HQ,HAY⟩:=hrel;by_cases hjl:j<xs.length;case neg=>
    have E0:=zDm hjl HAY.out;have E:Hid (lsGo (·.name) (·.rules.length) (fun(x:AList)=>zAl ruE x.rules) 16 r.acls (r.acls.drop (k+1)) (k+1)=res):=hid (by rw[HAN.out,if_pos E0]);clear E0;go_wp2;go_roundg (r.acls.length - (k+1));case measure=>omega
    case rel=>exact⟨k+1,by omega,by go_num,HQ,E⟩
   have HYT:=hid (zEd hjl HAY.out);obtain⟨g', o', c'', e',-,hg', R0⟩:=HN.out.elem (n:=10) (by decide) (fun _=>rfl) hjl;dsimp only at e';injection e' with e1 e2 e3
   subst e1 e3;have r1:=hid (zAf R0 (HQ.out.b.mono HBB.out) hg');have FY:=hid (FX.out _ (List.getElem_mem hjl));clear R0 e2;generalize xs[j]=y at HYT r1 FY;go_wp2_with (first|(refine zAa rfl 103 _ rfl rfl r1.out Tryz.rowRu Tryz.sizeRu ?_)|(refine zAd rfl 103 _ _ rfl rfl rfl (HasC.new wr _ _) rfl Tryz.sizeRu (Ru.one y) ?_;intro w5 hz1 hz2)|(refine zAa rfl 103 _ rfl rfl hz1.range Tryz.rowRu Tryz.sizeRu ?_));have H5:=hid (HQ.out.keep (zAi hz2));clear hz1 hz2 r1 HQ;refine(rightRule_any y FY.out _).mono ?_;rintro e w6 ⟨rfl,hb⟩;have H6:=hid (H5.out.keep hb);clear hb H5;have PE:Hid (ruE y=if zCp y then 0 else 1):=hid rfl;cases hv:zCp y with
   |false=>
    have F1:Hid (ruE y=1):=hid (by rw[PE.out,hv];rfl);have E:Hid (res=1):=hid (zDw HAN.out HYT.out (by rw[F1.out];decide) |>.trans (F1.out));go_wp2;go_ret;exact⟨zAc E.out.symm,H6.out.b⟩
   |true=>
    have F0:Hid (ruE y=0):=hid (by rw[PE.out,hv];rfl);have E:Hid (zAl ruE (xs.drop (j+1))=zAl ruE xs):=hid (zCx HYT.out (F0.out));go_wp2;go_roundg (xs.length - (j+1));case measure=>omega
    case rel=>exact⟨j+1,by omega,by go_num,H6,E⟩
theorem zIm(r:Rt)(w:World)(B:Nat)(h:r.at w B)(hB:B≤w.heap.size):Calls Tryz.prog 30 #[.agg r.C] w fun e w' => e=.returned (.int .i64 (mapsE r.lists r.maps))∧Below w.heap.size w w' := by
 have H0:=hid (RB.start r w);have HR:=hid h;have HBB:=hid hB;obtain⟨A,c,hv,hle,-⟩:=h.hmaps;have HL:Hid (∀w', RB r w w' → w'.cell? ⟨w.heap.size,4,none⟩=some (.slice A r.maps.length c)):=hid (fun w' h=>by rw[←hv];exact h.h.cell 4);have HV:=hid hv;clear h hv hB;have c2:=HL.out _ H0.out;obtain⟨res,hres⟩:∃res,mapsE r.lists r.maps=res:=⟨_,rfl⟩;rw[hres];by_cases h8:8<r.maps.length
 ·have E:Hid (res=7):=hid (by rw[←hres];exact if_pos h8)
  clear hres;go_enter Tryz.func30,Tryz.ntmps30;go_wp2;go_ret;exact⟨zAc E.out.symm,H0.out.b⟩
 have d8:decide ((8:Int)<r.maps.length)=false:=by simp;omega
 have E:Hid (lsGo (·.name) (·.clauses.length) (fun(x:RMap)=>zAl (clE r.lists) x.clauses) 8 r.maps r.maps 0=res):=hid (by rw[←hres];exact(if_neg h8).symm);clear hres;go_enter Tryz.func30,Tryz.ntmps30;go_wp2_with fail;clear c2 d8;go_loopg [15] r.maps.length (fun gh ix wr=>∃k:Nat,k+gh=r.maps.length∧ix=.int .i64 k∧Hid (RB r w wr)∧Hid (lsGo (·.name) (·.clauses.length) (fun(x:RMap)=>zAl (clE r.lists) x.clauses) 8 r.maps (r.maps.drop k) k=res));case atStart=>exact⟨0,by omega,rfl,H0,E⟩
 case round=>
  obtain⟨k,hk,rfl,HW,HG⟩:=hrel;clear H0 E;by_cases hlt:k<r.maps.length;case neg=>
   have E:=hid (zHi hlt HG.out);go_wp2;go_ret;exact⟨zAc E.out.symm,HW.out.b⟩
  have HAT:=hid (zIc hlt HG.out);obtain⟨g,o,c', e',-,hg,R0⟩:=(HR.out.hmaps).elem (n:=2) (by decide) (fun _=>rfl) hlt;rw[HV.out]at e';injection e' with e1 e2 e3
  subst e1 e3;have R1:=hid (zAf R0 (HW.out.b.mono HBB.out) hg);have HN:=hid (HR.out.nmaps _ (List.getElem_mem hlt));clear R0 HG e2;generalize r.maps[k]=x at HAT R1 HN;obtain⟨xn,xv,xs⟩:=x;dsimp only at HAT HN;obtain⟨A2,c2,hv2,hle2,-⟩:=HN.out;dsimp only at hv2 hle2;subst hv2;have k0:wr.cell? ⟨g,o+k*2,none⟩=some (.string (str xn)):=R1.out 0 (.string (str xn)) rfl;obtain⟨-,k1⟩:=rw2 R1.out
  have S0:RLm r 52 xn (.slice A2 xs.length c2) wr.heap.size w (wr.alloc (.cells #[.string (str xn),.slice A2 xs.length c2] 52)).drew:=by
   have hn:=HasC.new wr 52 #[.string (str xn),.slice A2 xs.length c2];have hn2:=hn.keep (zAs _);exact⟨hn2.cell 0,hn2.cell 1,(HW.out.keep ((Below.refl _ _).alloc (Nat.le_refl _) _)).keep (zAs _),hn2⟩
  have HS0:=hid S0;clear S0 R1;have PL:=hid (fun w1 (hw1:RB r w w1)=>zFe r xn w1 B (HR.out.below (hw1.b.mono HBB.out)) (Nat.le_trans HBB.out hw1.b.size));have PC:=hid (fun w1=>zGp (k:Int) (idxF (fun y=>y.name==xn) r.maps 0) xn (xs.length:Int) 8 w1);go_wp2_with fail;clear k0 k1;generalize hwz:wr.alloc (.cells #[.string (str xn),.slice A2 xs.length c2] 52)=wz at HS0⊢;clear hwz HW;generalize wr.heap.size=gx at HS0⊢;refine zAo (fun W=>RLm r 52 xn (.slice A2 xs.length c2) gx w W) (by kernel_rfl) (by kernel_rfl) HS0.out ?_
  repeat
   (first
    |refine zGd (zGc (by rfl) 41 _ rfl rfl (fun W hW=>hW.2.2.1.h.range) Tryz.rowRt Tryz.sizeRt) ?_
    |(refine zBd (v:=?_) ?_ ?_ ?_;rotate_left;(· rfl);(· (intro W hW;obtain⟨x0,x1,-,-⟩:=hW;go_simp<;>rfl)))
    |(refine zAm ?_ ?_ (fun W hW=>(PL.out W hW.2.2.1).mono fun e w' ⟨he,hb⟩=>⟨he,RLm.keep hW hb⟩) ?_;(· rfl);(· (intro W hW;go_simp<;>rfl)))
    |(refine zAm ?_ ?_ (fun W hW=>(PC.out W).mono fun e w' ⟨he,hb⟩=>⟨he,hb ▸ hW⟩) ?_;(· rfl);(· (intro W hW;go_simp<;>rfl))))
   simp only[Act.put,List.setIfInBounds_toArray,List.set_cons_zero,List.set_cons_succ]
  refine zBo (fun wb hHeld=>?_);clear PL PC HS0;have H3:=hid hHeld;clear hHeld;by_cases he:listE (k:Int) (idxF (fun y=>y.name==xn) r.maps 0) xn (xs.length:Int) 8=0;case neg=>
   have E:Hid (res=listE (k:Int) (idxF (fun y=>y.name==xn) r.maps 0) xn (xs.length:Int) 8):=hid (by rw[HAT.out,if_neg he]);generalize listE (k:Int) (idxF (fun y=>y.name==xn) r.maps 0) xn (xs.length:Int) 8=le at *;have dn:(le != 0)=true:=by simpa using he
   clear HAT;go_wp2;go_ret;exact⟨zAc E.out.symm,H3.out.2.2.1.b⟩
  have HAN:Hid (res=if zAl (clE r.lists) xs=0 then lsGo (·.name) (·.clauses.length) (fun(x:RMap)=>zAl (clE r.lists) x.clauses) 8 r.maps (r.maps.drop (k+1)) (k+1)else zAl (clE r.lists) xs):=hid (by rw[HAT.out,if_pos he]);rw[he];clear he HAT;have c1:=H3.out.2.1;have hlen:xs.length≤9223372036854775807:=by have:=HN.out.len;simp only[maxLen]at this;exact Nat.le_trans this (by omega)
  go_wp2_with fail;clear c1;go_loopg [37] xs.length (fun gh ix wq=>∃j:Nat,j+gh=xs.length∧ix=.int .i64 j∧Hid (RB r w wq)∧Hid (zAl (clE r.lists) (xs.drop j)=zAl (clE r.lists) xs));case atStart=>exact⟨0,by omega,rfl,hid H3.out.2.2.1,hid rfl⟩
  case round=>
   obtain⟨j,hj,rfl,HQ,HAY⟩:=hrel;by_cases hjl:j<xs.length;case neg=>
    have E0:=zDm hjl HAY.out;have E:Hid (lsGo (·.name) (·.clauses.length) (fun(x:RMap)=>zAl (clE r.lists) x.clauses) 8 r.maps (r.maps.drop (k+1)) (k+1)=res):=hid (by rw[HAN.out,if_pos E0]);clear E0;go_wp2;go_roundg (r.maps.length - (k+1));case measure=>omega
    case rel=>exact⟨k+1,by omega,by go_num,HQ,E⟩
   have HYT:=hid (zEd hjl HAY.out);obtain⟨g', o', c'', e',-,hg', R0⟩:=HN.out.elem (n:=7) (by decide) (fun _=>rfl) hjl;dsimp only at e';injection e' with e1 e2 e3
   subst e1 e3;have r1:=hid (zAf R0 (HQ.out.b.mono HBB.out) hg');clear R0 e2;generalize xs[j]=y at HYT r1;go_upto_region 12 with(first|(refine zAa rfl 95 _ rfl rfl r1.out Tryz.rowCl Tryz.sizeCl ?_)|(refine zAd rfl 95 _ _ rfl rfl rfl (HasC.new wr _ _) rfl Tryz.sizeCl (Cl.one y) ?_;intro w5 hz1 hz2))
   have H5:=hid (HQ.out.keep (zAi hz2));have Y5:=hz1;clear hz1 hz2 r1 HQ;generalize wr.heap.size=gy at Y5⊢;replace Y5:=hid Y5;obtain⟨permit,list,tag,setM,setT,setP,prep⟩:=y;have y1:w5.cell? ⟨gy,1,none⟩=some (.string (str list)):=Y5.out.cell 1;have PE:Hid (clE r.lists ⟨permit,list,tag,setM,setT,setP,prep⟩=if !list.isEmpty&&decide (idxF (fun y=>y.name==list) r.lists 0<0)then 5 else if zCr ⟨permit,list,tag,setM,setT,setP,prep⟩then 0 else 1):=hid rfl;have PN:=hid (zEb r list w5 B (HR.out.below (H5.out.b.mono HBB.out)) (Nat.le_trans HBB.out H5.out.b.size));have tl:=zAe list;by_cases hl:list=[]
   ·subst hl
    have F5:Hid (clE r.lists ⟨permit,[],tag,setM,setT,setP,prep⟩=if zCr ⟨permit,[],tag,setM,setT,setP,prep⟩then 0 else 1):=hid (by rw[PE.out];rfl);go_wp2_with (first|(refine zAa rfl 95 _ rfl rfl Y5.out.range Tryz.rowCl Tryz.sizeCl ?_));with_reducible refine(zGw ⟨permit,[],tag,setM,setT,setP,prep⟩ _).mono ?_
    rintro e w8 ⟨rfl,hb⟩;have H8:=hid (H5.out.keep hb);clear hb;cases hv:zCr ⟨permit,[],tag,setM,setT,setP,prep⟩with
    |false=>
     have F1:Hid (clE r.lists ⟨permit,[],tag,setM,setT,setP,prep⟩=1):=hid (by rw[F5.out,hv];rfl);have E:Hid (res=1):=hid (zDw HAN.out HYT.out (by rw[F1.out];decide) |>.trans (F1.out));go_wp2;go_ret;exact⟨zAc E.out.symm,H8.out.b⟩
    |true=>
     have F0:Hid (clE r.lists ⟨permit,[],tag,setM,setT,setP,prep⟩=0):=hid (by rw[F5.out,hv];rfl);have E:Hid (zAl (clE r.lists) (xs.drop (j+1))=zAl (clE r.lists) xs):=hid (zCx HYT.out (F0.out));go_wp2;go_roundg (xs.length - (j+1));case measure=>omega
     case rel=>exact⟨j+1,by omega,by go_num,H8,E⟩
   have hne:list.isEmpty=false:=by cases list with|nil=>exact absurd rfl hl|cons=>rfl
   have tn:((str list).toList==[])=false:=by rw[tl];cases list with|nil=>exact absurd rfl hl|cons=>rfl
   have tn2:((str list).toList != [])=true:=by rw[tl];cases list with|nil=>exact absurd rfl hl|cons=>rfl
   clear tl;go_wp2_with (first|(refine zAj (by rfl) (zAa rfl 41 _ rfl rfl H5.out.h.range Tryz.rowRt Tryz.sizeRt ?_)));with_reducible refine PN.out.mono ?_
   rintro e w6 ⟨rfl,hb⟩;have H6:=hid (H5.out.keep hb);have Y6:=hid (Y5.out.keep hb);clear hb H5 Y5 y1;by_cases hi:idxF (fun y=>y.name==list) r.lists 0<0
   ·have di:=decide_eq_true hi
    have F1:Hid (clE r.lists ⟨permit,list,tag,setM,setT,setP,prep⟩=5):=hid (by rw[PE.out,hne,di];rfl);clear hi;have E:Hid (res=5):=hid (zDw HAN.out HYT.out (by rw[F1.out];decide) |>.trans (F1.out));go_wp2;go_ret;exact⟨zAc E.out.symm,H6.out.b⟩
   have di:=decide_eq_false hi;have F5:Hid (clE r.lists ⟨permit,list,tag,setM,setT,setP,prep⟩=if zCr ⟨permit,list,tag,setM,setT,setP,prep⟩then 0 else 1):=hid (by rw[PE.out,hne,di];rfl);clear hi;go_wp2_with (first|(refine zAa rfl 95 _ rfl rfl Y6.out.range Tryz.rowCl Tryz.sizeCl ?_));with_reducible refine(zGw ⟨permit,list,tag,setM,setT,setP,prep⟩ _).mono ?_
   rintro e w8 ⟨rfl,hb⟩;have H8:=hid (H6.out.keep hb);clear hb;cases hv:zCr ⟨permit,list,tag,setM,setT,setP,prep⟩with
   |false=>
    have F1:Hid (clE r.lists ⟨permit,list,tag,setM,setT,setP,prep⟩=1):=hid (by rw[F5.out,hv];rfl);have E:Hid (res=1):=hid (zDw HAN.out HYT.out (by rw[F1.out];decide) |>.trans (F1.out));go_wp2;go_ret;exact⟨zAc E.out.symm,H8.out.b⟩
   |true=>
    have F0:Hid (clE r.lists ⟨permit,list,tag,setM,setT,setP,prep⟩=0):=hid (by rw[F5.out,hv];rfl);have E:Hid (zAl (clE r.lists) (xs.drop (j+1))=zAl (clE r.lists) xs):=hid (zCx HYT.out (F0.out));go_wp2;go_roundg (xs.length - (j+1));case measure=>omega
    case rel=>exact⟨j+1,by omega,by go_num,H8,E⟩
def zAu{α:Type}(name:α→List UInt8)(l:List α)(n:List UInt8):Bool:=!n.isEmpty&&decide (idxF (fun y=>name y==n) l 0<0)
def filtE(acls:List AList)(x:If):Int:=if zAu (·.name) acls x.inn||zAu (·.name) acls x.out then 5 else 0
theorem zCe{l:List UInt8}(h:l≠[]):l.isEmpty=false∧((str l).toList==[])=false∧((str l).toList != [])=true:=by
 rw[zAe];cases l with
 |nil=>exact absurd rfl h
 |cons=>exact⟨rfl,rfl,rfl⟩
theorem zKc(r:Rt)(w:World)(B:Nat)(h:r.at w B)(hB:B≤w.heap.size):Calls Tryz.prog 33 #[.agg r.C] w fun e w' => e=.returned (.int .i64 (zAl (filtE r.acls) r.ifs))∧Below w.heap.size w w' := by
 have H0:=hid (RB.start r w);have HR:=hid h;have HBB:=hid hB;obtain⟨A,c,hv,hle,-⟩:=h.hifs;have HL:Hid (∀w', RB r w w' → w'.cell? ⟨w.heap.size,2,none⟩=some (.slice A r.ifs.length c)):=hid (fun w' h=>by rw[←hv];exact h.h.cell 2);have HV:=hid hv;have hlen:r.ifs.length≤9223372036854775807:=by have:=h.hifs.len;simp only[maxLen]at this;exact Nat.le_trans this (by omega)
 clear h hv hB;have c2:=HL.out _ H0.out;obtain⟨res,hres⟩:∃res,zAl (filtE r.acls) r.ifs=res:=⟨_,rfl⟩;rw[hres];go_enter Tryz.func33,Tryz.ntmps33;go_wp2_with fail;clear c2;go_loopg [8] r.ifs.length (fun gh ix wr=>∃k:Nat,k+gh=r.ifs.length∧ix=.int .i64 k∧Hid (RB r w wr)∧Hid (zAl (filtE r.acls) (r.ifs.drop k)=res));case atStart=>exact⟨0,by omega,rfl,H0,hid hres⟩
 case round=>
  obtain⟨k,hk,rfl,HW,HG⟩:=hrel;clear H0 hres;by_cases hlt:k<r.ifs.length;case neg=>
   have E:=hid (zDm hlt HG.out);go_wp2;go_ret;exact⟨zAc E.out.symm,HW.out.b⟩
  have HAT:=hid (zEd hlt HG.out);obtain⟨g,o,c', e',-,hg,R0⟩:=(HR.out.hifs).elem (n:=12) (by decide) (fun _=>rfl) hlt;rw[HV.out]at e';injection e' with e1 e2 e3
  subst e1 e3;have r1:=hid (zAf R0 (HW.out.b.mono HBB.out) hg);clear R0 HG e2;generalize r.ifs[k]=x at HAT r1;go_upto_region 4 with(first|(refine zAa rfl 68 _ rfl rfl r1.out Tryz.rowIf Tryz.sizeIf ?_)|(refine zAd rfl 68 _ _ rfl rfl rfl (HasC.new wr _ _) rfl Tryz.sizeIf (If.one x) ?_;intro w5 hz1 hz2))
  have H5:=hid (HW.out.keep (zAi hz2));have Y5:=hz1;clear hz1 hz2 r1 HW;generalize wr.heap.size=gy at Y5⊢;replace Y5:=hid Y5;obtain⟨name,addr,len,vlan,down,ls,area,cost,dv,inn,out,side⟩:=x;have PE:Hid (filtE r.acls ⟨name,addr,len,vlan,down,ls,area,cost,dv,inn,out,side⟩=if zAu (·.name) r.acls inn||zAu (·.name) r.acls out then 5 else 0):=hid rfl;generalize filtE r.acls ⟨name,addr,len,vlan,down,ls,area,cost,dv,inn,out,side⟩=fx at PE HAT;have PI:Hid (zAu (·.name) r.acls inn=(!inn.isEmpty&&decide (idxF (fun y=>y.name==inn) r.acls 0<0))):=hid rfl;have PO:Hid (zAu (·.name) r.acls out=(!out.isEmpty&&decide (idxF (fun y=>y.name==out) r.acls 0<0))):=hid rfl;have PN:=hid (fun nm w1 (h1:RB r w w1)=>aCL_any r nm w1 B (HR.out.below (h1.b.mono HBB.out)) (Nat.le_trans HBB.out h1.b.size));have Y9:Hid (∀w', HasC 68 gy (If.C ⟨name,addr,len,vlan,down,ls,area,cost,dv,inn,out,side⟩) w' → w'.cell? ⟨gy,9,none⟩=some (.string (str inn))∧w'.cell? ⟨gy,10,none⟩=some (.string (str out))):=hid (fun w' h=>⟨h.cell 9,h.cell 10⟩);generalize If.C ⟨name,addr,len,vlan,down,ls,area,cost,dv,inn,out,side⟩=cx at *;by_cases hi:inn=[]
  ·subst hi
   have ti:=zAe ([]:List UInt8);have EI:Hid (zAu (·.name) r.acls ([]:List UInt8)=false):=hid rfl;obtain⟨y9,y10⟩:=Y9.out _ Y5.out;by_cases ho:out=[]
   ·subst ho
    have tto:=zAe ([]:List UInt8);have E0:Hid (fx=0):=hid (by rw[PE.out,EI.out];rfl);have E:Hid (zAl (filtE r.acls) (r.ifs.drop (k+1))=res):=hid (zCx HAT.out E0.out);go_wp2;go_roundg (r.ifs.length - (k+1));case measure=>omega
    case rel=>exact⟨k+1,by omega,by go_num,H5,E⟩
   obtain⟨o1,o2,o3⟩:=zCe ho;go_wp2_with (first|(refine zAj (by rfl) (zAa rfl 41 _ rfl rfl H5.out.h.range Tryz.rowRt Tryz.sizeRt ?_)));with_reducible refine(PN.out out _ H5.out).mono ?_
   rintro e w7 ⟨rfl,hb⟩;have H7:=hid (H5.out.keep hb);clear hb y9 y10;by_cases hd2:idxF (fun y=>y.name==out) r.acls 0<0
   ·have di2:=decide_eq_true hd2
    have EO:Hid (zAu (·.name) r.acls out=true):=hid (by rw[PO.out,o1,di2];rfl);have E:Hid (res=5):=hid (by rw[HAT.out,PE.out,EO.out,EI.out];rfl);clear hd2;go_wp2;go_ret;exact⟨zAc E.out.symm,H7.out.b⟩
   have di2:=decide_eq_false hd2;have EO:Hid (zAu (·.name) r.acls out=false):=hid (by rw[PO.out,o1,di2];rfl);have E0:Hid (fx=0):=hid (by rw[PE.out,EI.out,EO.out];rfl);have E:Hid (zAl (filtE r.acls) (r.ifs.drop (k+1))=res):=hid (zCx HAT.out E0.out);clear hd2;go_wp2;go_roundg (r.ifs.length - (k+1));case measure=>omega
   case rel=>exact⟨k+1,by omega,by go_num,H7,E⟩
  obtain⟨i1,i2,i3⟩:=zCe hi;obtain⟨y9,y10⟩:=Y9.out _ Y5.out;go_wp2_with (first|(refine zAj (by rfl) (zAa rfl 41 _ rfl rfl H5.out.h.range Tryz.rowRt Tryz.sizeRt ?_)));with_reducible refine(PN.out inn _ H5.out).mono ?_
  rintro e w6 ⟨rfl,hb⟩;have H6:=hid (H5.out.keep hb);have Y6:=hid (Y5.out.keep hb);clear hb y9 y10;by_cases hd:idxF (fun y=>y.name==inn) r.acls 0<0
  ·have di:=decide_eq_true hd
   have EI:Hid (zAu (·.name) r.acls inn=true):=hid (by rw[PI.out,i1,di];rfl);have E:Hid (res=5):=hid (by rw[HAT.out,PE.out,EI.out];rfl);clear hd;go_wp2;go_ret;exact⟨zAc E.out.symm,H6.out.b⟩
  have di:=decide_eq_false hd;have EI:Hid (zAu (·.name) r.acls inn=false):=hid (by rw[PI.out,i1,di];rfl);clear hd;obtain⟨y9,y10⟩:=Y9.out _ Y6.out;by_cases ho:out=[]
  ·subst ho
   have tto:=zAe ([]:List UInt8);have E0:Hid (fx=0):=hid (by rw[PE.out,EI.out];rfl);have E:Hid (zAl (filtE r.acls) (r.ifs.drop (k+1))=res):=hid (zCx HAT.out E0.out);go_wp2;go_roundg (r.ifs.length - (k+1));case measure=>omega
   case rel=>exact⟨k+1,by omega,by go_num,H6,E⟩
  obtain⟨o1,o2,o3⟩:=zCe ho;go_wp2_with (first|(refine zAj (by rfl) (zAa rfl 41 _ rfl rfl H6.out.h.range Tryz.rowRt Tryz.sizeRt ?_)));with_reducible refine(PN.out out _ H6.out).mono ?_
  rintro e w7 ⟨rfl,hb⟩;have H7:=hid (H6.out.keep hb);clear hb y9 y10;by_cases hd2:idxF (fun y=>y.name==out) r.acls 0<0
  ·have di2:=decide_eq_true hd2
   have EO:Hid (zAu (·.name) r.acls out=true):=hid (by rw[PO.out,o1,di2];rfl);have E:Hid (res=5):=hid (by rw[HAT.out,PE.out,EO.out,EI.out];rfl);clear hd2;go_wp2;go_ret;exact⟨zAc E.out.symm,H7.out.b⟩
  have di2:=decide_eq_false hd2;have EO:Hid (zAu (·.name) r.acls out=false):=hid (by rw[PO.out,o1,di2];rfl);have E0:Hid (fx=0):=hid (by rw[PE.out,EI.out,EO.out];rfl);have E:Hid (zAl (filtE r.acls) (r.ifs.drop (k+1))=res):=hid (zCx HAT.out E0.out);clear hd2;go_wp2;go_roundg (r.ifs.length - (k+1));case measure=>omega
  case rel=>exact⟨k+1,by omega,by go_num,H7,E⟩
def sameS(x:Tr):Bool:=x.proto==0&&x.iport==0&&x.oport==0&&x.list.isEmpty&&x.lo==0&&x.hi==0
def sameP(x:Tr):Bool:=x.ins==0&&x.outs==0&&x.proto==0&&x.iport==0&&x.oport==0
def zBi(x:Tr):Bool :=
 if x.kind=1 then sameS x && !(x.ins==0) && !(x.outs==0)
 else if x.kind=2 then sameP x && !(x.lo==0)&&decide (x.lo≤x.hi)&&decide (x.hi - x.lo<8)
 else if x.kind=3 then !(x.ins==0) && !(x.outs==0)&&(x.proto==6||x.proto==17)&&zAb x.iport 0 65535&&zAb x.oport 0 65535&&x.list.isEmpty&&x.lo==0&&x.hi==0
 else false
theorem Tryz.trStood:Tryz.prog.stoodInHeld 106=false:=by kernel_rfl
theorem Tryz.trGuard:Tryz.prog.eqGuardType Tryz.prog.depth 106=false:=by kernel_rfl
theorem str_eqb(l:List UInt8):((str l).toList==(str []).toList)=l.isEmpty:=by rw[zAe,zAe];cases l<;>rfl
theorem trS_eql(ins outs:Nat)(proto iport oport:Int)(list:List UInt8)(lo hi:Nat)(w:World):(binOp .eql 106 (.agg #[.int .i64 1,.int .u32 (ins:Int),.int .u32 (outs:Int),.int .i64 proto,.int .i64 iport,.int .i64 oport,.string (str list),.int .u32 (lo:Int),.int .u32 (hi:Int)]) (.agg #[.int .i64 1,.int .u32 (ins:Int),.int .u32 (outs:Int),.int .i64 0,.int .i64 0,.int .i64 0,.string (str []),.int .u32 0,.int .u32 0])).run Tryz.prog w=.ok (.bool (sameS ⟨1,ins,outs,proto,iport,oport,list,lo,hi⟩)) w:=by
 have hp:=Tryz.trStood;have hs:=str_eqb list;unfold sameS;dsimp only;by_cases h1:proto=0
 ·by_cases h2:iport=0
  ·by_cases h3:oport=0
   ·by_cases h4:list=[]
    ·by_cases h5:lo=0
     ·by_cases h6:hi=0
      ·subst h1 h2 h3 h4 h5 h6;simp[go_sem,hp]
      ·have:((hi:Int)==0)=false:=by simp;omega
       subst h1 h2 h3 h4 h5;simp[go_sem,hp,h6,this]
     ·have:((lo:Int)==0)=false:=by simp;omega
      subst h1 h2 h3 h4;simp[go_sem,hp,h5,this]
    ·have:list.isEmpty=false:=by cases list with|nil=>exact absurd rfl h4|cons=>rfl
     rw[this]at hs;subst h1 h2 h3;simp[go_sem,hp,hs,this]
   ·have:(oport==0)=false:=by simpa using h3
    subst h1 h2;simp[go_sem,hp,this]
  ·have:(iport==0)=false:=by simpa using h2
   subst h1;simp[go_sem,hp,this]
 ·have:(proto==0)=false:=by simpa using h1
  simp[go_sem,hp,this]
theorem trP_eql(ins outs:Nat)(proto iport oport:Int)(list:List UInt8)(lo hi:Nat)(w:World):(binOp .eql 106 (.agg #[.int .i64 2,.int .u32 (ins:Int),.int .u32 (outs:Int),.int .i64 proto,.int .i64 iport,.int .i64 oport,.string (str list),.int .u32 (lo:Int),.int .u32 (hi:Int)]) (.agg #[.int .i64 2,.int .u32 0,.int .u32 0,.int .i64 0,.int .i64 0,.int .i64 0,.string (str list),.int .u32 (lo:Int),.int .u32 (hi:Int)])).run Tryz.prog w=.ok (.bool (sameP ⟨2,ins,outs,proto,iport,oport,list,lo,hi⟩)) w:=by
 have hp:=Tryz.trStood;unfold sameP;dsimp only;by_cases h5:ins=0
 ·by_cases h6:outs=0
  ·by_cases h1:proto=0
   ·by_cases h2:iport=0
    ·by_cases h3:oport=0
     ·subst h1 h2 h3 h5 h6;simp[go_sem,hp]
     ·have:(oport==0)=false:=by simpa using h3
      subst h1 h2 h5 h6;simp[go_sem,hp,this]
    ·have:(iport==0)=false:=by simpa using h2
     subst h1 h5 h6;simp[go_sem,hp,this]
   ·have:(proto==0)=false:=by simpa using h1
    subst h5 h6;simp[go_sem,hp,this]
  ·have:((outs:Int)==0)=false:=by simp;omega
   subst h5;simp[go_sem,hp,h6,this]
 ·have:((ins:Int)==0)=false:=by simp;omega
  simp[go_sem,hp,h5,this]
theorem rightTr_three(ins outs:Nat)(proto iport oport:Int)(list:List UInt8)(lo hi:Nat)(w:World):Calls Tryz.prog 89 #[.agg #[.int .i64 3,.int .u32 (ins:Int),.int .u32 (outs:Int),.int .i64 proto,.int .i64 iport,.int .i64 oport,.string (str list),.int .u32 (lo:Int),.int .u32 (hi:Int)]] w fun e w' => e=.returned (.bool (zBi ⟨3,ins,outs,proto,iport,oport,list,lo,hi⟩))∧Below w.heap.size w w' := by
 have B0:=hid (fun o=>(Below.refl w.heap.size w).alloc (Nat.le_refl _) o);have HW:=hid (fun n lo hi w=>zAr n lo hi w);have E:Hid (zBi ⟨3,ins,outs,proto,iport,oport,list,lo,hi⟩=(!(ins==0) && !(outs==0)&&(proto==6||proto==17)&&zAb iport 0 65535&&zAb oport 0 65535&&list.isEmpty&&lo==0&&hi==0)):=hid rfl;generalize zBi ⟨3,ins,outs,proto,iport,oport,list,lo,hi⟩=res at E⊢;go_enter Tryz.func89,Tryz.ntmps89;by_cases h1:ins=0
 ·subst h1
  go_wp2_with (go_at_call 27;refine(HW.out _ _ _ _).mono ?_;rintro e w' ⟨rfl,rfl⟩)
  all_goals (go_ret;exact⟨zAg (by rw[E.out];first|(simp[*];done)|(simp[*];omega)),B0.out _⟩)
 ·have h1a:((ins:Int)==0)=false:=by simp;omega
  have h1b:((ins:Int) != 0)=true:=by simp;omega
  have h1c:(ins==0)=false:=by simpa using h1
  by_cases h2:outs=0
  ·subst h2
   go_wp2_with (go_at_call 27;refine(HW.out _ _ _ _).mono ?_;rintro e w' ⟨rfl,rfl⟩)
   all_goals (go_ret;exact⟨zAg (by rw[E.out];first|(simp[*];done)|(simp[*];omega)),B0.out _⟩)
  ·have h2a:((outs:Int)==0)=false:=by simp;omega
   have h2b:((outs:Int) != 0)=true:=by simp;omega
   have h2c:(outs==0)=false:=by simpa using h2
   by_cases h3:proto=6
   ·subst h3
    cases h4:zAb iport 0 65535 with
    |false=>
     go_wp2_with (go_at_call 27;refine(HW.out _ _ _ _).mono ?_;rintro e w' ⟨rfl,rfl⟩)
     all_goals (go_ret;exact⟨zAg (by rw[E.out];first|(simp[*];done)|(simp[*];omega)),B0.out _⟩)
    |true=>
     cases h5:zAb oport 0 65535 with
     |false=>
      go_wp2_with (go_at_call 27;refine(HW.out _ _ _ _).mono ?_;rintro e w' ⟨rfl,rfl⟩)
      all_goals (go_ret;exact⟨zAg (by rw[E.out];first|(simp[*];done)|(simp[*];omega)),B0.out _⟩)
     |true=>
      have h6t:=zAe list;cases list with
      |nil=>
       by_cases h7:lo=0
       ·subst h7
        by_cases h8:hi=0
        ·subst h8
         go_wp2_with (go_at_call 27;refine(HW.out _ _ _ _).mono ?_;rintro e w' ⟨rfl,rfl⟩)
         all_goals (go_ret;exact⟨zAg (by rw[E.out];first|(simp[*];done)|(simp[*];omega)),B0.out _⟩)
        ·have h8a:((hi:Int)==0)=false:=by simp;omega
         have h8b:((hi:Int) != 0)=true:=by simp;omega
         have h8c:(hi==0)=false:=by simpa using h8
         go_wp2_with (go_at_call 27;refine(HW.out _ _ _ _).mono ?_;rintro e w' ⟨rfl,rfl⟩)
         all_goals (go_ret;exact⟨zAg (by rw[E.out];first|(simp[*];done)|(simp[*];omega)),B0.out _⟩)
       ·have h7a:((lo:Int)==0)=false:=by simp;omega
        have h7b:((lo:Int) != 0)=true:=by simp;omega
        have h7c:(lo==0)=false:=by simpa using h7
        go_wp2_with (go_at_call 27;refine(HW.out _ _ _ _).mono ?_;rintro e w' ⟨rfl,rfl⟩)
        all_goals (go_ret;exact⟨zAg (by rw[E.out];first|(simp[*];done)|(simp[*];omega)),B0.out _⟩)
      |cons c8 k8=>
       go_wp2_with (go_at_call 27;refine(HW.out _ _ _ _).mono ?_;rintro e w' ⟨rfl,rfl⟩)
       all_goals (go_ret;exact⟨zAg (by rw[E.out];first|(simp[*];done)|(simp[*];omega)),B0.out _⟩)
   ·have h3a:(proto==6)=false:=by simpa using h3
    have h3b:(proto != 6)=true:=by simpa using h3
    by_cases h9:proto=17
    ·subst h9
     cases h10:zAb iport 0 65535 with
     |false=>
      go_wp2_with (go_at_call 27;refine(HW.out _ _ _ _).mono ?_;rintro e w' ⟨rfl,rfl⟩)
      all_goals (go_ret;exact⟨zAg (by rw[E.out];first|(simp[*];done)|(simp[*];omega)),B0.out _⟩)
     |true=>
      cases h11:zAb oport 0 65535 with
      |false=>
       go_wp2_with (go_at_call 27;refine(HW.out _ _ _ _).mono ?_;rintro e w' ⟨rfl,rfl⟩)
       all_goals (go_ret;exact⟨zAg (by rw[E.out];first|(simp[*];done)|(simp[*];omega)),B0.out _⟩)
      |true=>
       have h12t:=zAe list;cases list with
       |nil=>
        by_cases h13:lo=0
        ·subst h13
         by_cases h14:hi=0
         ·subst h14
          go_wp2_with (go_at_call 27;refine(HW.out _ _ _ _).mono ?_;rintro e w' ⟨rfl,rfl⟩)
          all_goals (go_ret;exact⟨zAg (by rw[E.out];first|(simp[*];done)|(simp[*];omega)),B0.out _⟩)
         ·have h14a:((hi:Int)==0)=false:=by simp;omega
          have h14b:((hi:Int) != 0)=true:=by simp;omega
          have h14c:(hi==0)=false:=by simpa using h14
          go_wp2_with (go_at_call 27;refine(HW.out _ _ _ _).mono ?_;rintro e w' ⟨rfl,rfl⟩)
          all_goals (go_ret;exact⟨zAg (by rw[E.out];first|(simp[*];done)|(simp[*];omega)),B0.out _⟩)
        ·have h13a:((lo:Int)==0)=false:=by simp;omega
         have h13b:((lo:Int) != 0)=true:=by simp;omega
         have h13c:(lo==0)=false:=by simpa using h13
         go_wp2_with (go_at_call 27;refine(HW.out _ _ _ _).mono ?_;rintro e w' ⟨rfl,rfl⟩)
         all_goals (go_ret;exact⟨zAg (by rw[E.out];first|(simp[*];done)|(simp[*];omega)),B0.out _⟩)
       |cons c14 k14=>
        go_wp2_with (go_at_call 27;refine(HW.out _ _ _ _).mono ?_;rintro e w' ⟨rfl,rfl⟩)
        all_goals (go_ret;exact⟨zAg (by rw[E.out];first|(simp[*];done)|(simp[*];omega)),B0.out _⟩)
    ·have h9a:(proto==17)=false:=by simpa using h9
     have h9b:(proto != 17)=true:=by simpa using h9
     go_wp2_with (go_at_call 27;refine(HW.out _ _ _ _).mono ?_;rintro e w' ⟨rfl,rfl⟩)
     all_goals (go_ret;exact⟨zAg (by rw[E.out];first|(simp[*];done)|(simp[*];omega)),B0.out _⟩)
theorem rightTr_other(kind:Int)(ins outs:Nat)(proto iport oport:Int)(list:List UInt8)(lo hi:Nat)(w:World)(h1:kind≠1)(h2:kind≠2)(h3:kind≠3):Calls Tryz.prog 89 #[.agg #[.int .i64 kind,.int .u32 (ins:Int),.int .u32 (outs:Int),.int .i64 proto,.int .i64 iport,.int .i64 oport,.string (str list),.int .u32 (lo:Int),.int .u32 (hi:Int)]] w fun e w' => e=.returned (.bool (zBi ⟨kind,ins,outs,proto,iport,oport,list,lo,hi⟩))∧Below w.heap.size w w' := by
 have B0:=hid (fun o=>(Below.refl w.heap.size w).alloc (Nat.le_refl _) o);have E:Hid (zBi ⟨kind,ins,outs,proto,iport,oport,list,lo,hi⟩=false):=hid (by unfold zBi;rw[if_neg h1,if_neg h2,if_neg h3]);have d1:(kind==1)=false:=by simpa using h1
 have d2:(kind==2)=false:=by simpa using h2
 have d3:(kind==3)=false:=by simpa using h3
 go_enter Tryz.func89,Tryz.ntmps89;go_wp2;go_ret;exact⟨zAg E.out.symm,B0.out _⟩
theorem zId(a b:Nat)(h:b≤a)(ha:a<4294967296):IntKind.u32.wrap ((a:Int) - (b:Int))=((a - b:Nat):Int):=by
 have:IntKind.u32.wrap ((a:Int) - (b:Int))=((a:Int) - b) % 4294967296:=by simp[IntKind.wrap,IntKind.signed,IntKind.bits]
 omega
theorem rightTr_one(ins outs:Nat)(proto iport oport:Int)(list:List UInt8)(lo hi:Nat)(w:World):Calls Tryz.prog 89 #[.agg #[.int .i64 1,.int .u32 (ins:Int),.int .u32 (outs:Int),.int .i64 proto,.int .i64 iport,.int .i64 oport,.string (str list),.int .u32 (lo:Int),.int .u32 (hi:Int)]] w fun e w' => e=.returned (.bool (zBi ⟨1,ins,outs,proto,iport,oport,list,lo,hi⟩))∧Below w.heap.size w w' := by
 have B0:=hid (fun o o2=>((Below.refl w.heap.size w).alloc (Nat.le_refl _) o).alloc (by simp) o2);have g:=Tryz.trGuard;have E:Hid (zBi ⟨1,ins,outs,proto,iport,oport,list,lo,hi⟩=(proto==0&&iport==0&&oport==0&&list.isEmpty&&lo==0&&hi==0 && !(ins==0) && !(outs==0))):=hid rfl;generalize zBi ⟨1,ins,outs,proto,iport,oport,list,lo,hi⟩=res at E⊢;go_enter Tryz.func89,Tryz.ntmps89;by_cases h1:proto=0
 ·subst h1
  by_cases h2:iport=0
  ·subst h2
   by_cases h3:oport=0
   ·subst h3
    have h4t:=zAe list;cases list with
    |nil=>
     by_cases h5:lo=0
     ·subst h5
      by_cases h6:hi=0
      ·subst h6
       by_cases h7:ins=0
       ·subst h7
        go_wp2_with fail
        all_goals (go_ret;exact⟨zAg (by rw[E.out];first|(simp[*];done)|(simp[*];omega)),B0.out _ _⟩)
       ·have h7a:((ins:Int)==0)=false:=by simp;omega
        have h7b:((ins:Int) != 0)=true:=by simp;omega
        have h7c:(ins==0)=false:=by simpa using h7
        by_cases h8:outs=0
        ·subst h8
         go_wp2_with fail
         all_goals (go_ret;exact⟨zAg (by rw[E.out];first|(simp[*];done)|(simp[*];omega)),B0.out _ _⟩)
        ·have h8a:((outs:Int)==0)=false:=by simp;omega
         have h8b:((outs:Int) != 0)=true:=by simp;omega
         have h8c:(outs==0)=false:=by simpa using h8
         go_wp2_with fail
         all_goals (go_ret;exact⟨zAg (by rw[E.out];first|(simp[*];done)|(simp[*];omega)),B0.out _ _⟩)
      ·have h6a:((hi:Int)==0)=false:=by simp;omega
       have h6b:((hi:Int) != 0)=true:=by simp;omega
       have h6c:(hi==0)=false:=by simpa using h6
       go_wp2_with fail
       all_goals (go_ret;exact⟨zAg (by rw[E.out];first|(simp[*];done)|(simp[*];omega)),B0.out _ _⟩)
     ·have h5a:((lo:Int)==0)=false:=by simp;omega
      have h5b:((lo:Int) != 0)=true:=by simp;omega
      have h5c:(lo==0)=false:=by simpa using h5
      go_wp2_with fail
      all_goals (go_ret;exact⟨zAg (by rw[E.out];first|(simp[*];done)|(simp[*];omega)),B0.out _ _⟩)
    |cons c8 k8=>
     go_wp2_with fail
     all_goals (go_ret;exact⟨zAg (by rw[E.out];first|(simp[*];done)|(simp[*];omega)),B0.out _ _⟩)
   ·have h3a:(oport==0)=false:=by simpa using h3
    have h3b:(oport != 0)=true:=by simpa using h3
    go_wp2_with fail
    all_goals (go_ret;exact⟨zAg (by rw[E.out];first|(simp[*];done)|(simp[*];omega)),B0.out _ _⟩)
  ·have h2a:(iport==0)=false:=by simpa using h2
   have h2b:(iport != 0)=true:=by simpa using h2
   go_wp2_with fail
   all_goals (go_ret;exact⟨zAg (by rw[E.out];first|(simp[*];done)|(simp[*];omega)),B0.out _ _⟩)
 ·have h1a:(proto==0)=false:=by simpa using h1
  have h1b:(proto != 0)=true:=by simpa using h1
  go_wp2_with fail
  all_goals (go_ret;exact⟨zAg (by rw[E.out];first|(simp[*];done)|(simp[*];omega)),B0.out _ _⟩)
theorem rightTr_two(ins outs:Nat)(proto iport oport:Int)(list:List UInt8)(lo hi:Nat)(hh:hi<4294967296)(w:World):Calls Tryz.prog 89 #[.agg #[.int .i64 2,.int .u32 (ins:Int),.int .u32 (outs:Int),.int .i64 proto,.int .i64 iport,.int .i64 oport,.string (str list),.int .u32 (lo:Int),.int .u32 (hi:Int)]] w fun e w' => e=.returned (.bool (zBi ⟨2,ins,outs,proto,iport,oport,list,lo,hi⟩))∧Below w.heap.size w w' := by
 have B0:=hid (fun o o2=>((Below.refl w.heap.size w).alloc (Nat.le_refl _) o).alloc (by simp) o2);have g:=Tryz.trGuard;have E:Hid (zBi ⟨2,ins,outs,proto,iport,oport,list,lo,hi⟩=(ins==0&&outs==0&&proto==0&&iport==0&&oport==0 && !(lo==0)&&decide (lo≤hi)&&decide (hi - lo<8))):=hid rfl;generalize zBi ⟨2,ins,outs,proto,iport,oport,list,lo,hi⟩=res at E⊢;go_enter Tryz.func89,Tryz.ntmps89;by_cases h1:ins=0
 ·subst h1
  by_cases h2:outs=0
  ·subst h2
   by_cases h3:proto=0
   ·subst h3
    by_cases h4:iport=0
    ·subst h4
     by_cases h5:oport=0
     ·subst h5
      by_cases h6:lo=0
      ·subst h6
       go_wp2_with fail
       all_goals (go_ret;exact⟨zAg (by rw[E.out];first|(simp[*];done)|(simp[*];omega)),B0.out _ _⟩)
      ·have h6a:((lo:Int)==0)=false:=by simp;omega
       have h6b:((lo:Int) != 0)=true:=by simp;omega
       have h6c:(lo==0)=false:=by simpa using h6
       by_cases h7:lo≤hi
       ·have h7d:=decide_eq_true h7
        have hs:=zId hi lo (by assumption) hh;have hle:((lo:Int)≤(hi:Int)):=by omega
        by_cases h8:hi - lo<8
        ·have h8d:=decide_eq_true h8
         go_wp2_with fail
         all_goals (go_ret;exact⟨zAg (by rw[E.out];first|(simp[*];done)|(simp[*];omega)),B0.out _ _⟩)
        ·have h8d:=decide_eq_false h8
         go_wp2_with fail
         all_goals (go_ret;exact⟨zAg (by rw[E.out];first|(simp[*];done)|(simp[*];omega)),B0.out _ _⟩)
       ·have h7d:=decide_eq_false h7
        go_wp2_with fail
        all_goals (go_ret;exact⟨zAg (by rw[E.out];first|(simp[*];done)|(simp[*];omega)),B0.out _ _⟩)
     ·have h5a:(oport==0)=false:=by simpa using h5
      have h5b:(oport != 0)=true:=by simpa using h5
      go_wp2_with fail
      all_goals (go_ret;exact⟨zAg (by rw[E.out];first|(simp[*];done)|(simp[*];omega)),B0.out _ _⟩)
    ·have h4a:(iport==0)=false:=by simpa using h4
     have h4b:(iport != 0)=true:=by simpa using h4
     go_wp2_with fail
     all_goals (go_ret;exact⟨zAg (by rw[E.out];first|(simp[*];done)|(simp[*];omega)),B0.out _ _⟩)
   ·have h3a:(proto==0)=false:=by simpa using h3
    have h3b:(proto != 0)=true:=by simpa using h3
    go_wp2_with fail
    all_goals (go_ret;exact⟨zAg (by rw[E.out];first|(simp[*];done)|(simp[*];omega)),B0.out _ _⟩)
  ·have h2a:((outs:Int)==0)=false:=by simp;omega
   have h2b:((outs:Int) != 0)=true:=by simp;omega
   have h2c:(outs==0)=false:=by simpa using h2
   go_wp2_with fail
   all_goals (go_ret;exact⟨zAg (by rw[E.out];first|(simp[*];done)|(simp[*];omega)),B0.out _ _⟩)
 ·have h1a:((ins:Int)==0)=false:=by simp;omega
  have h1b:((ins:Int) != 0)=true:=by simp;omega
  have h1c:(ins==0)=false:=by simpa using h1
  go_wp2_with fail
  all_goals (go_ret;exact⟨zAg (by rw[E.out];first|(simp[*];done)|(simp[*];omega)),B0.out _ _⟩)
theorem zHl(x:Tr)(hx:x.fit)(w:World):Calls Tryz.prog 89 #[.agg x.C] w fun e w' => e=.returned (.bool (zBi x))∧Below w.heap.size w w' := by
 obtain⟨kind,ins,outs,proto,iport,oport,list,lo,hi⟩:=x;by_cases h1:kind=1
 ·subst h1;exact rightTr_one ins outs proto iport oport list lo hi w
 by_cases h2:kind=2
 ·subst h2;exact rightTr_two ins outs proto iport oport list lo hi hx.2.2.2 w
 by_cases h3:kind=3
 ·subst h3;exact rightTr_three ins outs proto iport oport list lo hi w
 exact rightTr_other kind ins outs proto iport oport list lo hi w h1 h2 h3
def natE(acls:List AList)(x:Tr):Int:=if zBi x then(if x.kind==2&&decide (idxF (fun y=>y.name==x.list) acls 0<0)then 5 else 0)else 1
def natsE(acls:List AList)(l:List Tr):Int:=if 8<l.length then 7 else zAl (natE acls) l
theorem checkNAT_any(r:Rt)(w:World)(B:Nat)(h:r.at w B)(hB:B≤w.heap.size)(hf:∀x∈r.nat,x.fit):Calls Tryz.prog 32 #[.agg r.C] w fun e w' => e=.returned (.int .i64 (natsE r.acls r.nat))∧Below w.heap.size w w' := by
 have H0:=hid (RB.start r w);have HR:=hid h;have HF:=hid hf;have HBB:=hid hB;obtain⟨A,c,hv,hle,-⟩:=h.hnat;have HL:Hid (∀w', RB r w w' → w'.cell? ⟨w.heap.size,6,none⟩=some (.slice A r.nat.length c)):=hid (fun w' h=>by rw[←hv];exact h.h.cell 6);have HV:=hid hv;clear h hf hv hB;have c2:=HL.out _ H0.out;obtain⟨res,hres⟩:∃res,natsE r.acls r.nat=res:=⟨_,rfl⟩;rw[hres];by_cases h8:8<r.nat.length
 ·have E:Hid (res=7):=hid (by rw[←hres];exact if_pos h8)
  clear hres;go_enter Tryz.func32,Tryz.ntmps32;go_wp2;go_ret;exact⟨zAc E.out.symm,H0.out.b⟩
 have d8:decide ((8:Int)<r.nat.length)=false:=by simp;omega
 have E:Hid (zAl (natE r.acls) r.nat=res):=hid (by rw[←hres];exact(if_neg h8).symm);clear hres;go_enter Tryz.func32,Tryz.ntmps32;go_wp2_with fail;clear c2 d8;go_loopg [12] r.nat.length (fun gh ix wr=>∃k:Nat,k+gh=r.nat.length∧ix=.int .i64 k∧Hid (RB r w wr)∧Hid (zAl (natE r.acls) (r.nat.drop k)=res));case atStart=>exact⟨0,by omega,rfl,H0,E⟩
 case round=>
  obtain⟨k,hk,rfl,HW,HG⟩:=hrel;clear H0 E;by_cases hlt:k<r.nat.length;case neg=>
   have E:=hid (zDm hlt HG.out);go_wp2;go_ret;exact⟨zAc E.out.symm,HW.out.b⟩
  have HAT:=hid (zEd hlt HG.out);obtain⟨g,o,c', e',-,hg,R0⟩:=(HR.out.hnat).elem (n:=9) (by decide) (fun _=>rfl) hlt;rw[HV.out]at e';injection e' with e1 e2 e3
  subst e1 e3;have r1:=hid (zAf R0 (HW.out.b.mono HBB.out) hg);have FX:=hid (HF.out _ (List.getElem_mem hlt));clear R0 HG e2;generalize r.nat[k]=x at HAT r1 FX;go_wp2_with (first|(refine zAa rfl 106 _ rfl rfl r1.out Tryz.rowTr Tryz.sizeTr ?_)|(refine zAd rfl 106 _ _ rfl rfl rfl (HasC.new wr _ _) rfl Tryz.sizeTr (Tr.one x) ?_;intro w5 hz1 hz2)|(refine zAa rfl 106 _ rfl rfl hz1.range Tryz.rowTr Tryz.sizeTr ?_));have H5:=hid (HW.out.keep (zAi hz2));have Y5:=hz1;clear hz1 hz2 r1 HW;generalize wr.heap.size=gy at Y5⊢;replace Y5:=hid Y5;refine(zHl x FX.out _).mono ?_;rintro e w6 ⟨rfl,hb⟩;have H6:=hid (H5.out.keep hb);have Y6:=hid (Y5.out.keep hb);clear hb H5 Y5;have PE:Hid (natE r.acls x=if zBi x then(if x.kind==2&&decide (idxF (fun y=>y.name==x.list) r.acls 0<0)then 5 else 0)else 1):=hid rfl;generalize natE r.acls x=fx at PE HAT;have y0:=cl0 Y6.out;have y6:w6.cell? ⟨gy,6,none⟩=some (.string (str x.list)):=Y6.out.cell 6;cases hv:zBi x with
  |false=>
   have E:Hid (res=1):=hid (by rw[HAT.out,PE.out,hv];rfl);go_wp2;go_ret;exact⟨zAc E.out.symm,H6.out.b⟩
  |true=>
  have PE2:Hid (fx=if x.kind==2&&decide (idxF (fun y=>y.name==x.list) r.acls 0<0)then 5 else 0):=hid (by rw[PE.out,hv];rfl);clear hv PE;by_cases hk2:x.kind=2;case neg=>
   have d2:(x.kind==2)=false:=by simpa using hk2
   have E:Hid (zAl (natE r.acls) (r.nat.drop (k+1))=res):=hid (zCx HAT.out (by rw[PE2.out,d2];rfl));clear hk2;go_wp2;go_roundg (r.nat.length - (k+1));case measure=>omega
   case rel=>exact⟨k+1,by omega,by go_num,H6,E⟩
  rw[hk2]at y0;have PE3:Hid (fx=if decide (idxF (fun y=>y.name==x.list) r.acls 0<0)then 5 else 0):=hid (by rw[PE2.out,hk2];rfl);clear hk2;go_wp2_with (first|(refine zAj (by rfl) (zAa rfl 41 _ rfl rfl H6.out.h.range Tryz.rowRt Tryz.sizeRt ?_)));with_reducible refine(aCL_any r x.list w6 B (HR.out.below (H6.out.b.mono HBB.out)) (Nat.le_trans HBB.out H6.out.b.size)).mono ?_
  rintro e w7 ⟨rfl,hb⟩;have H7:=hid (H6.out.keep hb);clear hb y0 y6;by_cases hd:idxF (fun y=>y.name==x.list) r.acls 0<0
  ·have di:=decide_eq_true hd
   have E:Hid (res=5):=hid (by rw[HAT.out,PE3.out,di];rfl);clear hd;go_wp2;go_ret;exact⟨zAc E.out.symm,H7.out.b⟩
  have di:=decide_eq_false hd;have E:Hid (zAl (natE r.acls) (r.nat.drop (k+1))=res):=hid (zCx HAT.out (by rw[PE3.out,di];rfl));clear hd;go_wp2;go_roundg (r.nat.length - (k+1));case measure=>omega
  case rel=>exact⟨k+1,by omega,by go_num,H7,E⟩
def zAt{α:Type}(f:α→Int)(c:α→α→Bool)(err:Int)(all:List α):List α→Nat→Int
 |[],_=>0
 |x :: r,k=>if f x=0 then(if(all.take k).any (c x)then err else zAt f c err all r (k+1))else f x
theorem zCk{α:Type}{f:α→Int}{c:α→α→Bool}{err:Int}{all:List α}{k:Nat}{R:Int}(h:k<all.length)(hR:zAt f c err all (all.drop k) k=R) :
  R=if f all[k]=0 then(if(all.take k).any (c all[k])then err else zAt f c err all (all.drop (k+1)) (k+1))else f all[k]:=by
 rw[zHq h,zAt]at hR;exact hR.symm
theorem zCb{α:Type}{f:α→Int}{c:α→α→Bool}{err:Int}{all:List α}{k:Nat}{R:Int}(h:¬k<all.length)(hR:zAt f c err all (all.drop k) k=R):R=0:=by
 rw[List.drop_of_length_le (by omega),zAt]at hR;exact hR.symm
def pairE{α:Type}(most:Nat)(f:α→Int)(c:α→α→Bool)(err:Int)(l:List α):Int:=if most<l.length then 7 else zAt f c err l l 0
theorem zBe{res fx X:Int}(h:res=if fx=0 then X else fx)(h2:fx≠0):res=fx:=by rw[h,if_neg h2]
theorem zDg{res fx X:Int}(h:res=if fx=0 then X else fx)(h2:fx=0):res=X:=by rw[h,if_pos h2]
theorem zEp{res err X:Int}{a b d:Bool}(h:res=if a then err else X)(h1:a=b)(h2:b=(true||d)):res=err:=by rw[h,h1,h2];rfl
theorem zCo{a b d:Bool}(h1:a=b)(h2:b=(false||d)):a=d:=by rw[h1,h2];rfl
theorem zDt{α:Type}{res err X:Int}{all:List α}{p:α→Bool}{k j:Nat}(h:res=if(all.take k).any p then err else X)(h1:(all.take k).any p=((all.take k).drop j).any p)(hj:¬j<k):res=X:=by
 rw[h,h1,List.drop_of_length_le (by rw[List.length_take];omega)];rfl
theorem zDr{α:Type}{all:List α}{p:α→Bool}{k j:Nat}(hj:j<k)(hjn:j<all.length):((all.take k).drop j).any p=(p all[j]||((all.take k).drop (j+1)).any p):=by
 rw[any_at (by rw[List.length_take];omega),List.getElem_take]
def cntB:List Bool→Int
 |[]=>0
 |b :: r=>(if b then 1 else 0)+cntB r
theorem cntB_bd:∀l:List Bool,0≤cntB l∧cntB l≤l.length
 |[]=>⟨Int.le_refl _,Int.le_refl _⟩
 |b :: r=>by
  have:=cntB_bd r;simp only[cntB,List.length_cons];split<;>omega
theorem cntB_take(l:List Bool):∀(k:Nat) (h:k<l.length),cntB (l.take (k+1))=cntB (l.take k)+(if l[k]then 1 else 0):=by
 induction l with
 |nil=>intro k h;cases h
 |cons b r ih=>
  intro k h;cases k with
  |zero=>simp[cntB]
  |succ k=>
   have:=ih k (by simpa using h);simp only[List.take_succ_cons,cntB,List.getElem_cons_succ]at this⊢;omega
def zGb(x:Sr):List Bool:=[!(x.next==0),!x.iface.isEmpty,x.discard]
def zFf(ifs:List If)(x:Sr):Bool:=zAv x.pa x.pl&&cntB (zGb x)==1&&(x.next==0||decide (idxF (hasA x.next) ifs 0<0))&&zAb x.admin 1 255&&zAb x.tag 0 65535
theorem nat_neq(n:Nat):((n:Int) != 0) = !(n==0):=by
 rw[Bool.eq_iff_iff];simp
theorem zJa(l:List UInt8):(str l).toList.isEmpty=l.isEmpty:=by rw[zAe]
structure RS2 (r:Rt) (x:Sr) (w0 w:World):Prop where
 h:HasC 41 w0.heap.size r.C w
 s:HasC 109 (w0.heap.size+1) x.C w
 b:Below w0.heap.size w0 w
theorem RS2.keep{r:Rt}{x:Sr}{w0 w w' : World}(h:RS2 r x w0 w)(hb:Below w.heap.size w w'):RS2 r x w0 w' := ⟨h.h.keep hb,h.s.keep hb,h.b.trans (hb.mono h.b.size)⟩
theorem RS2.start(r:Rt)(x:Sr)(w:World):RS2 r x w ((w.alloc (.cells r.C 41)).alloc (.cells x.C 109)):=by
 refine⟨(HasC.new w _ _).keep ((Below.refl _ _).alloc (Nat.le_refl _) _),?_,((Below.refl _ _).alloc (Nat.le_refl _) _).alloc (by simp) _⟩;have:=HasC.new (w.alloc (.cells r.C 41)) 109 x.C
 rwa [show(w.alloc (.cells r.C 41)).heap.size=w.heap.size+1 from by simp]at this
theorem rightStatic_any(r:Rt)(x:Sr)(w:World)(B:Nat)(h:r.at w B)(hB:B≤w.heap.size)(hx:x.fit):Calls Tryz.prog 90 #[.agg r.C,.agg x.C] w fun e w' => e=.returned (.bool (zFf r.ifs x))∧Below w.heap.size w w' := by
 have H0:=RS2.start r x w;have HR:=hid h;have HBB:=hid hB;have HX:=hid hx;clear h hB hx;have E:Hid (zFf r.ifs x=(zAv x.pa x.pl&&cntB (zGb x)==1&&(x.next==0||decide (idxF (hasA x.next) r.ifs 0<0))&&zAb x.admin 1 255&&zAb x.tag 0 65535)):=hid rfl;have EL:Hid (zGb x=[((x.next:Int) != 0),!(str x.iface).toList.isEmpty,x.discard]):=hid (by rw[nat_neq,zJa];rfl);generalize zFf r.ifs x=res at E⊢;obtain⟨b0,hb0⟩:∃b,((x.next:Int) != 0)=b:=⟨_,rfl⟩;obtain⟨b1,hb1⟩:∃b,(str x.iface).toList.isEmpty=b:=⟨_,rfl⟩;obtain⟨b2,hb2⟩:∃b,x.discard=b:=⟨_,rfl⟩;rw[hb0,hb1,hb2]at EL;generalize hl:zGb x=l at EL E;clear hl;obtain rfl:=EL.out;have c2:=cl2 H0.s;have c3:((w.alloc (.cells r.C 41)).alloc (.cells x.C 109)).cell? ⟨w.heap.size+1,3,none⟩=some (.string (str x.iface)):=H0.s.cell 3;have c4:=cl4 H0.s;rw[hb2]at c4;clear hb2 EL
 have HB:HasC 4 (w.heap.size+1+1) #[.bool b0,.bool !b1,.bool b2] (((w.alloc (.cells r.C 41)).alloc (.cells x.C 109)).alloc (.cells #[.bool b0,.bool !b1,.bool b2] 4)):=by
  have:=HasC.new ((w.alloc (.cells r.C 41)).alloc (.cells x.C 109)) 4 #[.bool b0,.bool !b1,.bool b2]
  rwa [show((w.alloc (.cells r.C 41)).alloc (.cells x.C 109)).heap.size=w.heap.size+1+1 from by simp]at this
 have HB0:=hid HB;have HS0:=hid (H0.keep ((Below.refl _ _).alloc (Nat.le_refl _) (.cells #[.bool b0,.bool !b1,.bool b2] 4)));clear HB H0;go_enter Tryz.func90,Tryz.ntmps90;go_wp2_with fail;clear c2 c3 c4 hb0 hb1;go_loopg [5,18] 3 (fun gh kv ix wr=>∃k:Nat,k+gh=3∧ix=.int .i64 k∧kv=.int .i64 (cntB ([b0,!b1,b2].take k))∧Hid (RS2 r x w wr)∧Hid (HasC 4 (w.heap.size+1+1) #[.bool b0,.bool !b1,.bool b2] wr));case atStart=>exact⟨0,by omega,rfl,rfl,HS0,HB0⟩
 case round=>
  obtain⟨k,hk,rfl,rfl,HW,HC⟩:=hrel;clear HS0 HB0;by_cases hlt:k<3;case pos=>
   have ck:wr.cell? ⟨w.heap.size+1+1,k,none⟩=some (.bool ([b0,!b1,b2][k])):=by
    rw[HC.out.cell k];rcases(show k=0∨k=1∨k=2 by omega)with rfl|rfl|rfl<;>rfl
   have ST:=hid (cntB_take [b0,!b1,b2] k hlt);have BD:=cntB_bd ([b0,!b1,b2].take k);have hlen:([b0,!b1,b2].take k).length≤3:=by rw[List.length_take];omega
   generalize [b0,!b1,b2][k]=bk at ck ST;generalize cntB ([b0,!b1,b2].take k)=n at ST BD⊢;have hn0 : -10≤n:=by omega
   have hn1:n≤10:=by omega
   clear BD hlen;cases bk with
   |false=>
    go_wp2;go_roundg (3 - (k+1));case measure=>omega
    case rel=>exact⟨k+1,by omega,by go_num,by rw[ST.out];simp,HW,HC⟩
   |true=>
    go_wp2;go_roundg (3 - (k+1));case measure=>omega
    case rel=>exact⟨k+1,by omega,by go_num,by rw[ST.out];first|done|rfl|go_num,HW,HC⟩
  obtain rfl:k=3:=by omega
  have EN:Hid (cntB [b0,!b1,b2]=cntB ([b0,!b1,b2].take 3)):=hid rfl;rw[EN.out]at E;generalize cntB ([b0,!b1,b2].take 3)=n at E⊢;clear EN HC hlt;obtain⟨c0,c1⟩:=bl2 HW.out.s;go_wp2_with fail;refine(zEn x.pa x.pl _ HX.out.1).mono ?_;rintro e w1 ⟨rfl,hb⟩;have H1:=hid (HW.out.keep hb);clear hb HW c0 c1;cases hv:zAv x.pa x.pl with
  |false=>
   go_wp2;go_ret;exact⟨zAg (by rw[E.out,hv];rfl),H1.out.b⟩
  |true=>
  by_cases hn:n=1;case neg=>
   have dn:(n==1)=false:=by simpa using hn
   clear hn;go_wp2;go_ret;exact⟨zAg (by rw[E.out,hv,dn];rfl),H1.out.b⟩
  subst hn;have E1:Hid (res=((x.next==0||decide (idxF (hasA x.next) r.ifs 0<0))&&zAb x.admin 1 255&&zAb x.tag 0 65535)):=hid (by rw[E.out,hv];rfl);clear hv E;have c2:=cl2 H1.out.s;by_cases hz:x.next=0
  ·have dz:((x.next:Int)==0)=true:=by simp;omega
   have E2:Hid (res=(zAb x.admin 1 255&&zAb x.tag 0 65535)):=hid (by rw[E1.out,hz];rfl);clear hz;obtain⟨-,-,-,-,-,c5,c6⟩:=bl7 H1.out.s;cases hw1:zAb x.admin 1 255 with
   |false=>
    go_wp2_with (go_at_call 27;refine(zAr _ _ _ _).mono ?_;rintro e w' ⟨rfl,rfl⟩);go_ret;exact⟨zAg (by rw[E2.out,hw1];rfl),H1.out.b⟩
   |true=>
   go_wp2_with (go_at_call 27;refine(zAr _ _ _ _).mono ?_;rintro e w' ⟨rfl,rfl⟩);go_ret;exact⟨zAg (by rw[E2.out,hw1];rfl),H1.out.b⟩
  have dz:((x.next:Int)==0)=false:=by simp;omega
  have dz2:(x.next==0)=false:=by simpa using hz
  have E3:Hid (res=(decide (idxF (hasA x.next) r.ifs 0<0)&&zAb x.admin 1 255&&zAb x.tag 0 65535)):=hid (by rw[E1.out,dz2];rfl);clear hz dz2;go_wp2_with (first|(refine zAj (by rfl) (zAa rfl 41 _ rfl rfl H1.out.h.range Tryz.rowRt Tryz.sizeRt ?_)));with_reducible refine(address_any r x.next w1 B (HR.out.below (H1.out.b.mono HBB.out)) (Nat.le_trans HBB.out H1.out.b.size)).mono ?_
  rintro e w2 ⟨rfl,hb⟩;have H2:=hid (H1.out.keep hb);clear hb H1 c2;by_cases hd:idxF (hasA x.next) r.ifs 0<0;case neg=>
   have di:=decide_eq_false hd;clear hd;go_wp2;go_ret;exact⟨zAg (by rw[E3.out,di];rfl),H2.out.b⟩
  have di:=decide_eq_true hd;have E2:Hid (res=(zAb x.admin 1 255&&zAb x.tag 0 65535)):=hid (by rw[E3.out,di];rfl);clear hd;obtain⟨-,-,-,-,-,c5,c6⟩:=bl7 H2.out.s;cases hw1:zAb x.admin 1 255 with
  |false=>
   go_wp2_with (go_at_call 27;refine(zAr _ _ _ _).mono ?_;rintro e w' ⟨rfl,rfl⟩);go_ret;exact⟨zAg (by rw[E2.out,hw1];rfl),H2.out.b⟩
  |true=>
  go_wp2_with (go_at_call 27;refine(zAr _ _ _ _).mono ?_;rintro e w' ⟨rfl,rfl⟩);go_ret;exact⟨zAg (by rw[E2.out,hw1];rfl),H2.out.b⟩
def lenAt(ifs:List If)(n:List UInt8):Int:=(ifs[(idxF (fun y=>y.name==n) ifs 0).toNat]?.map (·.len)).getD 0
def staF(ifs:List If)(x:Sr):Int:=if zFf ifs x then(if x.iface.isEmpty then 0 else if idxF (fun y=>y.name==x.iface) ifs 0<0 then 5 else if lenAt ifs x.iface=0 then 1 else 0)else 1
def zBz(x y:Sr):Bool:=decide (y.pa=x.pa∧y.pl=x.pl)&&y.admin==x.admin
def zJo(ifs:List If)(l:List Sr):Int:=pairE 16 (staF ifs) zBz 6 l
theorem zKe(r:Rt)(w:World)(B:Nat)(h:r.at w B)(hB:B≤w.heap.size)(hf:∀x∈r.stat,x.fit):Calls Tryz.prog 34 #[.agg r.C] w fun e w' => e=.returned (.int .i64 (zJo r.ifs r.stat))∧Below w.heap.size w w' := by
 have H0:=hid (RB.start r w);have HR:=hid h;have HF:=hid hf;clear hf;have HBB:=hid hB;obtain⟨A,c,hv,hle,-⟩:=h.hstat;have HL:Hid (∀w', RB r w w' → w'.cell? ⟨w.heap.size,7,none⟩=some (.slice A r.stat.length c)):=hid (fun w' h=>by rw[←hv];exact h.h.cell 7);have HV:=hid hv;clear h hv hB;have c2:=HL.out _ H0.out;obtain⟨res,hres⟩:∃res,zJo r.ifs r.stat=res:=⟨_,rfl⟩;rw[hres];by_cases h8:16<r.stat.length
 ·have E:Hid (res=7):=hid (by rw[←hres];exact if_pos h8)
  clear hres;go_enter Tryz.func34,Tryz.ntmps34;go_wp2;go_ret;exact⟨zAc E.out.symm,H0.out.b⟩
 have d8:decide ((16:Int)<r.stat.length)=false:=by simp;omega
 have E:Hid (zAt (staF r.ifs) zBz 6 r.stat r.stat 0=res):=hid (by rw[←hres];exact(if_neg h8).symm);clear hres;go_enter Tryz.func34,Tryz.ntmps34;go_wp2_with fail;clear c2 d8;go_loopg [15] r.stat.length (fun gh ix wr=>∃k:Nat,k+gh=r.stat.length∧ix=.int .i64 k∧Hid (RB r w wr)∧Hid (zAt (staF r.ifs) zBz 6 r.stat (r.stat.drop k) k=res));case atStart=>exact⟨0,by omega,rfl,H0,E⟩
 case round=>
  obtain⟨k,hk,rfl,HW,HG⟩:=hrel;clear H0 E;by_cases hlt:k<r.stat.length;case neg=>
   have E:=hid (zCb hlt HG.out);go_wp2;go_ret;exact⟨zAc E.out.symm,HW.out.b⟩
  have HAT:=hid (zCk hlt HG.out);obtain⟨g,o,c', e',-,hg,R0⟩:=(HR.out.hstat).elem (n:=7) (by decide) (fun _=>rfl) hlt;rw[HV.out]at e';injection e' with e1 e2 e3
  subst e1 e3;have r1:=hid (zAf R0 (HW.out.b.mono HBB.out) hg);have FX:=hid (HF.out _ (List.getElem_mem hlt));clear R0 HG e2;generalize r.stat[k]=x at HAT r1 FX;go_upto_region 6 with(first|(refine zAa rfl 109 _ rfl rfl r1.out Tryz.rowSr Tryz.sizeSr ?_)|(refine zAd rfl 109 _ _ rfl rfl rfl (HasC.new wr _ _) rfl Tryz.sizeSr (Sr.one x) ?_;intro w5 hz1 hz2))
  have H5:=hid (HW.out.keep (zAi hz2));have X5:=hz1;clear hz1 hz2 r1 HW;generalize wr.heap.size=gx at X5⊢;replace X5:=hid X5;go_wp2_with (first|(refine zAa rfl 41 _ rfl rfl H5.out.h.range Tryz.rowRt Tryz.sizeRt ?_)|(refine zAa rfl 109 _ rfl rfl X5.out.range Tryz.rowSr Tryz.sizeSr ?_));with_reducible refine(rightStatic_any r x _ B (HR.out.below (H5.out.b.mono HBB.out)) (Nat.le_trans HBB.out H5.out.b.size) FX.out).mono ?_
  rintro e w6 ⟨rfl,hb⟩;have H6:=hid (H5.out.keep hb);have X6:=hid (X5.out.keep hb);clear hb H5 X5;have PE:Hid (staF r.ifs x=if zFf r.ifs x then(if x.iface.isEmpty then 0 else if idxF (fun y=>y.name==x.iface) r.ifs 0<0 then 5 else if lenAt r.ifs x.iface=0 then 1 else 0)else 1):=hid rfl;cases hv:zFf r.ifs x with
  |false=>
   have F1:Hid (staF r.ifs x=1):=hid (by rw[PE.out,hv];rfl);have E:Hid (res=1):=hid ((zBe HAT.out (by rw[F1.out];decide)).trans (F1.out));go_wp2;go_ret;exact⟨zAc E.out.symm,H6.out.b⟩
  |true=>
  have PE2:Hid (staF r.ifs x=if x.iface.isEmpty then 0 else if idxF (fun y=>y.name==x.iface) r.ifs 0<0 then 5 else if lenAt r.ifs x.iface=0 then 1 else 0):=hid (by rw[PE.out,hv];rfl);clear hv PE;have x3:w6.cell? ⟨gx,3,none⟩=some (.string (str x.iface)):=X6.out.cell 3;by_cases hi:x.iface=[]
  ·have F0:Hid (staF r.ifs x=0):=hid (by rw[PE2.out,hi];rfl)
   have tn:(str x.iface).toList=[]:=by rw[zAe,hi]
   clear hi;have HAN:Hid (res=if(r.stat.take k).any (zBz x)then 6 else zAt (staF r.ifs) zBz 6 r.stat (r.stat.drop (k+1)) (k+1)):=hid (zDg HAT.out F0.out);clear HAT F0;have c2:=HL.out _ H6.out;go_wp2_with fail;clear c2 x3 tn;go_loopg [45] k (fun gh ix wq=>∃j:Nat,j+gh=k∧ix=.int .i64 j∧Hid (RB r w wq)∧Hid (HasC 109 gx x.C wq)∧Hid ((r.stat.take k).any (zBz x)=((r.stat.take k).drop j).any (zBz x)));case atStart=>exact⟨0,by omega,rfl,H6,X6,hid rfl⟩
   case round=>
    obtain⟨j,hj,rfl,HQ,XQ,HAY⟩:=hrel;by_cases hjl:j<k;case neg=>
     have E:Hid (zAt (staF r.ifs) zBz 6 r.stat (r.stat.drop (k+1)) (k+1)=res):=hid (zDt HAN.out HAY.out hjl).symm;go_wp2;go_roundg (r.stat.length - (k+1));case measure=>omega
     case rel=>exact⟨k+1,by omega,by go_num,HQ,E⟩
    have hjn:j<r.stat.length:=by omega
    obtain⟨g', o', c'', e',-,hg', R0⟩:=(HR.out.hstat).elem (n:=7) (by decide) (fun _=>rfl) hjn;rw[HV.out]at e';injection e' with e1 e2 e3
    injection e1 with e1
    injection e1 with e1 e4
    subst e1 e4;have HST:=hid (zDr (all:=r.stat) (p:=zBz x) hjl hjn);have r1:=hid (zAf R0 (HQ.out.b.mono HBB.out) hg');clear R0 e2 e3;generalize r.stat[j]=y at HST r1;have hjk:(j:Int)<k:=by omega
    go_upto_region 17 with(first|(refine zAa rfl 109 _ rfl rfl r1.out Tryz.rowSr Tryz.sizeSr ?_)|(refine zAd rfl 109 _ _ rfl rfl rfl (HasC.new wr _ _) rfl Tryz.sizeSr (Sr.one y) ?_;intro w6 hz1 hz2))
    have H6:=hid (HQ.out.keep (zAi hz2));have X6:=hid (XQ.out.keep (zAi hz2));have Y6:=hz1;clear hz1 hz2 r1 HQ XQ;generalize wr.heap.size=gy at Y6⊢;replace Y6:=hid Y6;obtain⟨xc0,xc1,-,-,-,xc5⟩:=bl6 X6.out;obtain⟨yc0,yc1,-,-,-,yc5⟩:=bl6 Y6.out;have qe:∀w,(binOp .eql 90 (.agg #[.int .u32 (y.pa:Int),.int .i64 y.pl]) (.agg #[.int .u32 (x.pa:Int),.int .i64 x.pl])).run Tryz.prog w=.ok (.bool (decide (y.pa=x.pa∧y.pl=x.pl))) w:=fun w=>zFo y.pa x.pa y.pl x.pl w
    have g:=Tryz.pfxGuard;have CC:Hid (zBz x y=(decide (y.pa=x.pa∧y.pl=x.pl)&&y.admin==x.admin)):=hid rfl;generalize decide (y.pa=x.pa∧y.pl=x.pl)=bp at qe CC;cases bp with
    |false=>
     have EN:Hid ((r.stat.take k).any (zBz x)=((r.stat.take k).drop (j+1)).any (zBz x)):=hid (zCo HAY.out (by rw[HST.out,CC.out,Bool.false_and]));go_wp2;go_roundg (k - (j+1));case measure=>omega
     case rel=>exact⟨j+1,by omega,by go_num,H6,X6,EN⟩
    |true=>
    by_cases ha:y.admin=x.admin
    ·have da:(y.admin==x.admin)=true:=by simpa using ha
     have CD:Hid (zBz x y=true):=hid (by rw[CC.out,da];rfl);clear ha;have E:Hid (res=6):=hid (zEp HAN.out HAY.out (by rw[HST.out,CD.out]));go_wp2;go_ret;exact⟨zAc E.out.symm,H6.out.b⟩
    have da:(y.admin==x.admin)=false:=by simpa using ha
    have CD:Hid (zBz x y=false):=hid (by rw[CC.out,da];rfl);clear ha;have EN:Hid ((r.stat.take k).any (zBz x)=((r.stat.take k).drop (j+1)).any (zBz x)):=hid (zCo HAY.out (by rw[HST.out,CD.out]));go_wp2;go_roundg (k - (j+1));case measure=>omega
    case rel=>exact⟨j+1,by omega,by go_num,H6,X6,EN⟩
  obtain⟨i1,i2,i3⟩:=zCe hi;have PE3:Hid (staF r.ifs x=if idxF (fun y=>y.name==x.iface) r.ifs 0<0 then 5 else if lenAt r.ifs x.iface=0 then 1 else 0):=hid (by rw[PE2.out,i1];rfl);clear hi PE2;go_wp2_with (first|(refine zAa rfl 41 _ rfl rfl H6.out.h.range Tryz.rowRt Tryz.sizeRt ?_));with_reducible refine(zGs r x.iface w6 B (HR.out.below (H6.out.b.mono HBB.out)) (Nat.le_trans HBB.out H6.out.b.size)).mono ?_
  rintro e w7 ⟨rfl,hb⟩;have H7:=hid (H6.out.keep hb);have X7:=hid (X6.out.keep hb);clear hb H6 X6 x3 i1 i2 i3;by_cases hd:idxF (fun y=>y.name==x.iface) r.ifs 0<0
  ·have di:=decide_eq_true hd
   have F1:Hid (staF r.ifs x=5):=hid (by rw[PE3.out,if_pos hd]);clear hd;have E:Hid (res=5):=hid ((zBe HAT.out (by rw[F1.out];decide)).trans (F1.out));go_wp2;go_ret;exact⟨zAc E.out.symm,H7.out.b⟩
  have PE4:Hid (staF r.ifs x=if lenAt r.ifs x.iface=0 then 1 else 0):=hid (by rw[PE3.out,if_neg hd]);obtain⟨i,hii⟩:∃i:Nat,idxF (fun y=>y.name==x.iface) r.ifs 0=(i:Int):=⟨_,(Int.toNat_of_nonneg (by omega)).symm⟩;have hil:i<r.ifs.length:=by have:=(idxF_bd (fun y=>y.name==x.iface) r.ifs 0).2;omega
  have EL:Hid (lenAt r.ifs x.iface=r.ifs[i].len):=hid (by unfold lenAt;rw[hii,Int.toNat_natCast,List.getElem?_eq_getElem hil];rfl);obtain⟨gi,oi,ci,ei,hci,hgi,RI⟩:=(HR.out.hifs).elem (n:=12) (by decide) (fun _=>rfl) hil;have cl:w7.cell? ⟨gi,oi+i*12+2,none⟩=some (.int .i64 r.ifs[i].len):=zAf RI (H7.out.b.mono HBB.out) hgi 2 _ rfl;have cs:w7.cell? ⟨w.heap.size,2,none⟩=some (.slice (some ⟨gi,oi,none⟩) r.ifs.length ci):=by rw[←ei];exact H7.out.h.cell 2
  rw[hii];clear hii hd RI ei;generalize r.ifs[i].len=li at EL cl;by_cases hz:li=0
  ·subst hz
   have F1:Hid (staF r.ifs x=1):=hid (by rw[PE4.out,EL.out];rfl);have E:Hid (res=1):=hid ((zBe HAT.out (by rw[F1.out];decide)).trans (F1.out));go_wp2;go_ret;exact⟨zAc E.out.symm,H7.out.b⟩
  have dz:(li==0)=false:=by simpa using hz
  have F0:Hid (staF r.ifs x=0):=hid (by rw[PE4.out,EL.out,if_neg hz]);clear hz;have HAN:Hid (res=if(r.stat.take k).any (zBz x)then 6 else zAt (staF r.ifs) zBz 6 r.stat (r.stat.drop (k+1)) (k+1)):=hid (zDg HAT.out F0.out);clear HAT F0;have c2:=HL.out _ H7.out;go_wp2_with fail;clear c2 cl cs dz;go_loopg [45] k (fun gh ix wq=>∃j:Nat,j+gh=k∧ix=.int .i64 j∧Hid (RB r w wq)∧Hid (HasC 109 gx x.C wq)∧Hid ((r.stat.take k).any (zBz x)=((r.stat.take k).drop j).any (zBz x)));case atStart=>exact⟨0,by omega,rfl,H7,X7,hid rfl⟩
  case round=>
   obtain⟨j,hj,rfl,HQ,XQ,HAY⟩:=hrel;by_cases hjl:j<k;case neg=>
    have E:Hid (zAt (staF r.ifs) zBz 6 r.stat (r.stat.drop (k+1)) (k+1)=res):=hid (zDt HAN.out HAY.out hjl).symm;go_wp2;go_roundg (r.stat.length - (k+1));case measure=>omega
    case rel=>exact⟨k+1,by omega,by go_num,HQ,E⟩
   have hjn:j<r.stat.length:=by omega
   obtain⟨g', o', c'', e',-,hg', R0⟩:=(HR.out.hstat).elem (n:=7) (by decide) (fun _=>rfl) hjn;rw[HV.out]at e';injection e' with e1 e2 e3
   injection e1 with e1
   injection e1 with e1 e4
   subst e1 e4;have HST:=hid (zDr (all:=r.stat) (p:=zBz x) hjl hjn);have r1:=hid (zAf R0 (HQ.out.b.mono HBB.out) hg');clear R0 e2 e3;generalize r.stat[j]=y at HST r1;have hjk:(j:Int)<k:=by omega
   go_upto_region 17 with(first|(refine zAa rfl 109 _ rfl rfl r1.out Tryz.rowSr Tryz.sizeSr ?_)|(refine zAd rfl 109 _ _ rfl rfl rfl (HasC.new wr _ _) rfl Tryz.sizeSr (Sr.one y) ?_;intro w6 hz1 hz2))
   have H6:=hid (HQ.out.keep (zAi hz2));have X6:=hid (XQ.out.keep (zAi hz2));have Y6:=hz1;clear hz1 hz2 r1 HQ XQ;generalize wr.heap.size=gy at Y6⊢;replace Y6:=hid Y6;obtain⟨xc0,xc1,-,-,-,xc5⟩:=bl6 X6.out;obtain⟨yc0,yc1,-,-,-,yc5⟩:=bl6 Y6.out;have qe:∀w,(binOp .eql 90 (.agg #[.int .u32 (y.pa:Int),.int .i64 y.pl]) (.agg #[.int .u32 (x.pa:Int),.int .i64 x.pl])).run Tryz.prog w=.ok (.bool (decide (y.pa=x.pa∧y.pl=x.pl))) w:=fun w=>zFo y.pa x.pa y.pl x.pl w
   have g:=Tryz.pfxGuard;have CC:Hid (zBz x y=(decide (y.pa=x.pa∧y.pl=x.pl)&&y.admin==x.admin)):=hid rfl;generalize decide (y.pa=x.pa∧y.pl=x.pl)=bp at qe CC;cases bp with
   |false=>
    have EN:Hid ((r.stat.take k).any (zBz x)=((r.stat.take k).drop (j+1)).any (zBz x)):=hid (zCo HAY.out (by rw[HST.out,CC.out,Bool.false_and]));go_wp2;go_roundg (k - (j+1));case measure=>omega
    case rel=>exact⟨j+1,by omega,by go_num,H6,X6,EN⟩
   |true=>
   by_cases ha:y.admin=x.admin
   ·have da:(y.admin==x.admin)=true:=by simpa using ha
    have CD:Hid (zBz x y=true):=hid (by rw[CC.out,da];rfl);clear ha;have E:Hid (res=6):=hid (zEp HAN.out HAY.out (by rw[HST.out,CD.out]));go_wp2;go_ret;exact⟨zAc E.out.symm,H6.out.b⟩
   have da:(y.admin==x.admin)=false:=by simpa using ha
   have CD:Hid (zBz x y=false):=hid (by rw[CC.out,da];rfl);clear ha;have EN:Hid ((r.stat.take k).any (zBz x)=((r.stat.take k).drop (j+1)).any (zBz x)):=hid (zCo HAY.out (by rw[HST.out,CD.out]));go_wp2;go_roundg (k - (j+1));case measure=>omega
   case rel=>exact⟨j+1,by omega,by go_num,H6,X6,EN⟩
end Go.Proofs.YthcnojmldldpeaaGreatDoor
