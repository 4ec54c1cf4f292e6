/- The reference's words of a text: numbers, protocols, patterns, ports, prefixes. Conditions: addresses are numbers below 2^32, numbers are not negative. -/
import Derived.Test.YthcnojmldldpeaaGreatDoorGad
set_option maxHeartbeats 4000000
namespace Go.Proofs.YthcnojmldldpeaaGreatDoor
open Lib (hid)
open Go.RowKit
theorem decN(m:Nat)(h:m≤65535)(w:World):Calls Tryz.prog 64 #[.int .i64 (m:Int)] w fun e w' => e=.returned (.string (str (dec m)))∧w=w' := zIa m w (by omega)
theorem zHy(a:Nat)(n:Int)(w:World)(ha:a<4294967296):Calls Tryz.prog 65 #[.int .u32 (a:Int),.int .i64 n] w fun e w' => e=.returned (.string (str (hostF a n)))∧w=w' := by
 by_cases h0:n<0
 ·have E:Hid (hostF a n=[]):=hid (by unfold hostF;rw[if_neg (by omega)])
  go_enter Tryz.func65,Tryz.ntmps65;go_wp2;go_ret;exact⟨by rw[E.out];rfl,rfl⟩
 by_cases h1:32<n
 ·have E:Hid (hostF a n=[]):=hid (by unfold hostF;rw[if_neg (by omega)])
  go_enter Tryz.func65,Tryz.ntmps65;go_wp2;go_ret;exact⟨by rw[E.out];rfl,rfl⟩
 obtain⟨m,rfl⟩:=Int.eq_ofNat_of_zero_le (Int.not_lt.1 h0);have E:Hid (hostF a m=cat (cat (fmtA a) [47]) (dec m)):=hid (by unfold hostF;rw[if_pos (by omega),Int.toNat_natCast];rfl);have s0:=zEu a;have s1:=zGy 2 m (by omega);have q1:Op.stringOp .add (str (fmtA a)) ⟨#[47]⟩=pure (.string (str (cat (fmtA a) [47]))):=run_cat (m:=[47]) (by simp;omega);have q2:Op.stringOp .add (str (cat (fmtA a) [47])) (str (dec m))=pure (.string (str (cat (cat (fmtA a) [47]) (dec m)))):=run_cat (by rw[cat_len];simp;omega);have d0:decide ((m:Int)<0)=false:=by simp
 have d1:decide ((32:Int)<m)=false:=by simp;omega
 have HD:=hid (decN m (by omega) w);clear s0 s1;go_enter Tryz.func65,Tryz.ntmps65;go_wp2_with fail;refine(zDj a _ ha).mono ?_;rintro e w1 ⟨rfl,rfl⟩;go_wp2_with fail;refine HD.out.mono ?_;rintro e w2 ⟨rfl,rfl⟩;go_wp2;go_ret;exact⟨by rw[E.out];rfl,rfl⟩
theorem zDe(p:Nat)(n:Int)(w:World)(hp:p<4294967296):Calls Tryz.prog 67 #[.agg #[.int .u32 (p:Int),.int .i64 n]] w fun e w' => e=.returned (.string (str (pfxF p n)))∧Below w.heap.size w w' := by
 have C1:=fun w=>zEi p n w hp
 unfold PV at C1;have H1:=hid C1;clear C1;cases hv:zAv p n with
 |false=>
  have E:Hid (pfxF p n=[]):=hid (by unfold pfxF;rw[hv];rfl);go_enter Tryz.func67,Tryz.ntmps67;go_wp2_with fail;refine(H1.out _).mono ?_;rintro e w1 ⟨rfl,hb1⟩;have hb:Below w.heap.size w w1:=((Below.refl _ w).alloc (Nat.le_refl _) _).trans (hb1.mono (by simp));clear hb1;go_wp2;go_ret;exact⟨by rw[E.out];rfl,hb⟩
 |true=>
  have E:Hid (pfxF p n=hostF p n):=hid (by unfold pfxF;rw[hv];rfl);have HS:=hid (fun w=>zHy p n w hp);go_enter Tryz.func67,Tryz.ntmps67;go_wp2_with fail;refine(H1.out _).mono ?_;rintro e w1 ⟨rfl,hb1⟩;have hb:Below w.heap.size w w1:=((Below.refl _ w).alloc (Nat.le_refl _) _).trans (hb1.mono (by simp));have c0:w1.cell? ⟨w.heap.size,0,none⟩=some (.int .u32 (p:Int)):=(hb1.cell (p:=⟨w.heap.size,0,none⟩) (by simp)).trans (zDf _ _ _ _);have c1:w1.cell? ⟨w.heap.size,1,none⟩=some (.int .i64 n):=(hb1.cell (p:=⟨w.heap.size,1,none⟩) (by simp)).trans (zDf _ _ _ _);clear hb1;go_wp2_with fail;refine(HS.out _).mono ?_;rintro e w2 ⟨rfl,rfl⟩;go_wp2;go_ret;exact⟨by rw[E.out];rfl,hb⟩
theorem zBm(n:Int)(w:World)(h0:0≤n)(h1:n≤16777215):Calls Tryz.prog 20 #[.int .i64 n] w fun e w' => e=.returned (.string (str (decI n)))∧w=w' := by
 obtain⟨m,rfl⟩:=Int.eq_ofNat_of_zero_le h0;have hz:¬((m:Int)<0):=by omega
 have HD:=hid (zIa m w (by omega));go_enter Tryz.func20,Tryz.ntmps20;go_wp2_with fail;refine HD.out.mono ?_;rintro e w1 ⟨rfl,rfl⟩;go_wp2;go_ret;exact⟨by rw[decI,Int.toNat_natCast];rfl,rfl⟩
theorem rallow_any(b:Bool)(w:World):Calls Tryz.prog 66 #[.bool b] w fun e w' => e=.returned (.string (str (if b then [112,101,114,109,105,116]else [100,101,110,121])))∧w=w' := by
 cases b
 all_goals
  go_enter Tryz.func66,Tryz.ntmps66;go_wp2;go_ret;exact⟨rfl,rfl⟩
theorem rtrans_any(p:Int)(w:World)(h0:0≤p)(h1:p≤255):Calls Tryz.prog 68 #[.int .i64 p] w fun e w' => e=.returned (.string (str (protW p)))∧w=w' := by
 by_cases h6:p=6
 ·subst h6
  go_enter Tryz.func68,Tryz.ntmps68;go_wp2;go_ret;exact⟨rfl,rfl⟩
 by_cases h17:p=17
 ·subst h17
  go_enter Tryz.func68,Tryz.ntmps68;go_wp2;go_ret;exact⟨rfl,rfl⟩
 have d0:(p == -1)=false:=by rw[beq_eq_false_iff_ne];omega
 have d1:(p==6)=false:=by rw[beq_eq_false_iff_ne];omega
 have d2:(p==17)=false:=by rw[beq_eq_false_iff_ne];omega
 have E:Hid (protW p=decI p):=hid (by unfold protW;rw[d1,d2];rfl);have HD:=hid (zBm p w h0 (by omega));clear h6 h17;go_enter Tryz.func68,Tryz.ntmps68;go_wp2_with fail;refine HD.out.mono ?_;rintro e w1 ⟨rfl,rfl⟩;go_wp2;go_ret;exact⟨by rw[E.out];rfl,rfl⟩
theorem rfull_any(lo hi:Int)(w:World):Calls Tryz.prog 70 #[.agg #[.int .i64 lo,.int .i64 hi]] w fun e w' => e=.returned (.bool (lo==0&&hi==65535))∧Below w.heap.size w w' := by
 have r1:∀w,(binOp .eql 101 (.agg #[.int .i64 lo,.int .i64 hi]) (.agg #[.int .i64 0,.int .i64 65535])).run Tryz.prog w=.ok (.bool (lo==0&&hi==65535)) w:=fun w=>by rw[rng_eql,Bool.decide_and];rfl
 go_enter Tryz.func70,Tryz.ntmps70;go_wp2;go_ret;exact⟨rfl,(Below.refl _ w).alloc (Nat.le_refl _) _⟩
set_option maxRecDepth 100000 in
theorem rportT_any(lo hi:Int)(w:World)(h0:0≤lo)(h1:lo≤hi)(h2:hi≤65535):Calls Tryz.prog 71 #[.agg #[.int .i64 lo,.int .i64 hi]] w fun e w' => e=.returned (.string (str (portW lo hi)))∧Below w.heap.size w w' := by
 have HC:Hid (PB lo hi w (w.alloc (.cells #[.int .i64 lo,.int .i64 hi] 101))):=hid ⟨HasC.new w _ _,(Below.refl w.heap.size w).alloc (Nat.le_refl _) _⟩;have HF:Hid (∀(n:Int),0≤n→n≤16777215→∀W,PB lo hi w W→Calls Tryz.prog 20 #[.int .i64 n] W fun e w' => e=.returned (.string (str (decI n)))∧PB lo hi w w'):=hid fun n h0 h1 W hW=>(zBm n W h0 h1).mono fun e w' ⟨he,hw⟩=>⟨he,hw ▸ hW⟩
 have HX:Hid (∀W,PB lo hi w W→W.cell? ⟨w.heap.size,0,none⟩=some (.int .i64 lo)∧W.cell? ⟨w.heap.size,1,none⟩=some (.int .i64 hi)):=hid fun W hW=>⟨hW.1.cell 0,hW.1.cell 1⟩
 by_cases hh:lo=hi
 ·subst hh
  have E:Hid (portW lo lo=decI lo):=hid (by unfold portW;rw[if_pos (by simp)]);obtain⟨c0,c1⟩:=HX.out _ HC.out;go_enter Tryz.func71,Tryz.ntmps71;go_wp2_with fail;refine(HF.out lo h0 (by omega) _ HC.out).mono ?_;rintro e w1 ⟨rfl,hb⟩;have R:=hid hb.2;clear hb;go_wp2;go_ret;exact⟨by rw[E.out];rfl,R.out⟩
 have E:Hid (portW lo hi=decI lo++45 :: decI hi):=hid (by unfold portW;rw[if_neg (by simpa using hh)];simp);have d1:(lo==hi)=false:=by simpa using hh
 have l1:=zKl (n:=lo) (by omega);have l2:=zKl (n:=hi) (by omega);rw[zBx]at l1 l2;have Q0:=hid (HF.out lo h0 (by omega));have Q1:=hid (HF.out hi (by omega) (by omega));obtain⟨c0,c1⟩:=HX.out _ HC.out;clear hh HF;go_enter Tryz.func71,Tryz.ntmps71;go_upto_region 3 with fail
 clear c0 c1;refine zAo (fun W=>PB lo hi w W) (by kernel_rfl) (by kernel_rfl) (HC.out.keep (zAs _)) ?_
 repeat
  (first
   |(refine zDy rfl rfl rfl rfl ?_ ?_;(· (simp;omega)))
   |(refine zBd (v:=?_) ?_ ?_ ?_;rotate_left;(· rfl);(· (intro W hW;obtain⟨c0,c1⟩:=HX.out W hW;go_simp<;>rfl)))
   |(refine zAm ?_ ?_ Q0.out ?_;(· rfl);(· (intro W hW;go_simp<;>rfl)))
   |(refine zAm ?_ ?_ Q1.out ?_;(· rfl);(· (intro W hW;go_simp<;>rfl))))
  simp only[Act.put,List.setIfInBounds_toArray,List.set_cons_zero,List.set_cons_succ]
 refine zBo (fun wq hS=>?_);have R:=hid hS.2;clear hS;go_wp2;go_ret;exact⟨by rw[E.out];rfl,R.out⟩
theorem rpat_full(a m:Nat)(w:World)(h:m=4294967295):Calls Tryz.prog 69 #[.agg #[.int .u32 (a:Int),.int .u32 (m:Int)]] w fun e w' => e=.returned (.string (str [97,110,121]))∧Below w.heap.size w w' := by
 subst h;go_enter Tryz.func69,Tryz.ntmps69;go_wp2;go_ret;exact⟨rfl,(Below.refl _ w).alloc (Nat.le_refl _) _⟩
set_option maxRecDepth 100000 in
theorem rpat_any(a m:Nat)(w:World)(ha:a<4294967296)(hm:m<4294967296)(hn:m≠4294967295):Calls Tryz.prog 69 #[.agg #[.int .u32 (a:Int),.int .u32 (m:Int)]] w fun e w' => e=.returned (.string (str (wildW a m)))∧Below w.heap.size w w' := by
 have HC:Hid (WB a m w (w.alloc (.cells #[.int .u32 (a:Int),.int .u32 (m:Int)] 99))):=hid ⟨HasC.new w _ _,(Below.refl w.heap.size w).alloc (Nat.le_refl _) _⟩;have HF:Hid (∀(b:Nat),b<4294967296→∀W,WB a m w W→Calls Tryz.prog 72 #[.int .u32 (b:Int)] W fun e w' => e=.returned (.string (str (fmtA b)))∧WB a m w w'):=hid fun b hb W hW=>(zDj b W hb).mono fun e w' ⟨he,hw⟩=>⟨he,hw ▸ hW⟩
 have HX:Hid (∀W,WB a m w W→W.cell? ⟨w.heap.size,0,none⟩=some (.int .u32 (a:Int))∧W.cell? ⟨w.heap.size,1,none⟩=some (.int .u32 (m:Int))):=hid fun W hW=>⟨hW.1.cell 0,hW.1.cell 1⟩
 obtain⟨c0,c1⟩:=HX.out _ HC.out;have d0:((m:Int)==4294967295)=false:=by rw[beq_eq_false_iff_ne];omega
 by_cases h0:m=0
 ·subst h0
  have E:Hid (wildW a 0=fmtA a):=hid (by unfold wildW;rw[show zBh (4294967295 - 0) 33=some 32 by decide];rfl);clear d0 hn;go_enter Tryz.func69,Tryz.ntmps69;go_wp2_with fail;refine(HF.out a ha _ HC.out).mono ?_;rintro e w1 ⟨rfl,hb⟩;have R:=hid hb.2;clear hb;go_wp2;go_ret;exact⟨by rw[E.out];rfl,R.out⟩
 have d1:((m:Int)==0)=false:=by rw[beq_eq_false_iff_ne];omega
 have nx:=not_u32 hm;have us:IntKind.u32.signed=false:=rfl;cases hl:zBh (4294967295 - m) 33 with
 |some n=>
  have l1:(zBh (4294967295 - m) 33).getD 0=n:=by rw[hl];rfl
  have l2:(zBh (4294967295 - m) 33).isSome=true:=by rw[hl];rfl
  have E:Hid (wildW a m=hostF a n):=hid (by
   have h3:n≠32:=by
    rintro rfl;have:=(zJw (Nat.le_refl 33) hl).2;rw[show maskN ((32:Nat):Int)=4294967295 by decide]at this;omega
   unfold wildW;rw[hl];simp only[if_neg h3])
  go_enter Tryz.func69,Tryz.ntmps69;go_wp2_with fail;refine(zJq (4294967295 - m) _).mono ?_;rintro e w1 ⟨rfl,rfl⟩;rw[l1,l2];go_wp2_with fail;refine(zHy a n _ ha).mono ?_;rintro e w1 ⟨rfl,rfl⟩;go_wp2;go_ret;exact⟨by rw[E.out];rfl,HC.out.2⟩
 |none=>
  have l1:(zBh (4294967295 - m) 33).getD 0=0:=by rw[hl];rfl
  have l2:(zBh (4294967295 - m) 33).isSome=false:=by rw[hl];rfl
  have E:Hid (wildW a m=fmtA a++126 :: fmtA m):=hid (by unfold wildW;rw[hl];simp);have s1:=zEu a;have s2:=zEu m;have Q0:=hid (HF.out a ha);have Q1:=hid (HF.out m hm);go_enter Tryz.func69,Tryz.ntmps69;go_wp2_with fail;refine(zJq (4294967295 - m) _).mono ?_;rintro e w1 ⟨rfl,rfl⟩;rw[l1,l2];go_upto_region 8 with fail
  clear c0 c1 HF;refine zAo (fun W=>WB a m w W) (by kernel_rfl) (by kernel_rfl) (HC.out.keep (zAs _)) ?_
  repeat
   (first
    |(refine zDy rfl rfl rfl rfl ?_ ?_;(· (simp;omega)))
    |(refine zBd (v:=?_) ?_ ?_ ?_;rotate_left;(· rfl);(· (intro W hW;obtain⟨c0,c1⟩:=HX.out W hW;go_simp<;>rfl)))
    |(refine zAm ?_ ?_ Q0.out ?_;(· rfl);(· (intro W hW;go_simp<;>rfl)))
    |(refine zAm ?_ ?_ Q1.out ?_;(· rfl);(· (intro W hW;go_simp<;>rfl))))
   simp only[Act.put,List.setIfInBounds_toArray,List.set_cons_zero,List.set_cons_succ]
  refine zBo (fun wq hS=>?_);have R:=hid hS.2;clear hS;go_wp2;go_ret;exact⟨by rw[E.out];rfl,R.out⟩
theorem rtransA_any(p:Int)(w:World)(h0 : -1≤p)(h1:p≤255):Calls Tryz.prog 68 #[.int .i64 p] w fun e w' => e=.returned (.string (str (protA p)))∧w=w' := by
 by_cases h:p = -1
 ·subst h
  go_enter Tryz.func68,Tryz.ntmps68;go_wp2;go_ret;exact⟨rfl,rfl⟩
 ·rw[show protA p=protW p from by unfold protA;rw[if_neg (by simpa using h)]]
  exact rtrans_any p w (by omega) h1
theorem rpatA_any(a m:Nat)(w:World)(ha:a<4294967296)(hm:m<4294967296):Calls Tryz.prog 69 #[.agg #[.int .u32 (a:Int),.int .u32 (m:Int)]] w fun e w' => e=.returned (.string (str (wildT a m)))∧Below w.heap.size w w' := by
 by_cases h:m=4294967295
 ·have:=rpat_full a m w h
  subst h;exact this
 ·rw[show wildT a m=wildW a m from by unfold wildT;rw[if_neg (by simpa using h)]]
  exact rpat_any a m w ha hm h
end Go.Proofs.YthcnojmldldpeaaGreatDoor
