/- Queries as data, the error of a query, the parser as a state (fields left, failed), what Parse reads: plain functions on lists of bytes. No condition. -/
import Derived.Test.YthcnojmldldpeaaGreatDoorGj
set_option maxHeartbeats 2000000
namespace Go.Proofs.YthcnojmldldpeaaGreatDoor
open Lib (hid)
open Go.RowKit
theorem Tryz.byteInfo:(Tryz.prog.info? 5).map (fun i=>(i.zero,i.size,i.bytes))=some (some (.int .u8 0),1,1):=by kernel_rfl
theorem own_form{w:World}{base:Nat}{e:TypeId}{size n:Nat}{v:Value}{xs:List Value}(h:w.ownsRow base e size v n xs)(hn:0<n) :
  ∃g cap,v=.slice (some ⟨g,0,none⟩) n cap∧base≤g∧g<w.heap.size∧∀j u,xs[j]? = some u→w.cell? ⟨g,j,none⟩=some u:=by
 obtain⟨A,c,e1,_,_,_,h2⟩:=Slc.of_own h;rcases h.2 with⟨_,h0⟩|⟨g,cap,cur,rfl,hb,hh,_⟩
 ·omega
 ·obtain⟨g', o', e2,hg,hc⟩:=h2 hn
  injection e1 with e1 _ _
  rw[←e1]at e2;injection e2 with e2
  injection e2 with e3 e4
  subst e3 e4;exact⟨g,cap,rfl,hb,hg,fun j u hu=>by simpa using hc j u hu⟩
def AppPost(B n:Nat)(xs:List Value)(u:Nat)(w:World)(e:Ending)(w' : World):Prop :=
 ∃v', e=.returned v' ∧ w'.ownsRow B 5 1 v' (n+(dec u).length) (xs++Lib.byteCells (dec u))∧Below B w w'
theorem zEv(B n u:Nat)(hu:u<256)(sv:Value)(xs:List Value)(w:World)(he:Env w)(hown:w.ownsRow B 5 1 sv n xs)(hB:B≤w.heap.size)(hn:n≤1000) :
  Calls Tryz.prog 98 #[sv,.int .u64 (u:Int),.int .i64 10] w (AppPost B n xs u w):=by
 have hc:Calls Tryz.prog 136 #[sv,.int .u64 (u:Int),.int .i64 10] w (AppPost B n xs u w):=by
  by_cases h:u<100
  ·refine(Tryz.internal_strconv_AppendUint_10_small B n u h sv xs w hown hB (by omega)).mono ?_
   rintro e w' ⟨v', rfl,h1,h2,_⟩;rw[dec_lib]at h1;exact⟨v', rfl,h1,h2⟩
  ·refine(Tryz.internal_strconv_AppendUint_10_big B n u (by omega) (by omega) sv xs w hown hB (by omega) he.2.1).mono ?_
   rintro e w' ⟨v', rfl,h1,h2,_⟩;rw[dec_lib]at h1;exact⟨v', rfl,h1,h2⟩
 have HC:=hid hc;clear hc hown he;go_enter Tryz.func98,Tryz.ntmps98;go_wp2_with fail;refine HC.out.mono ?_;rintro e w' ⟨v', rfl,h1,h2⟩;go_wp2;go_ret;exact⟨v', rfl,h1,h2⟩
theorem and255(x:Nat)(h:x<4294967296):bits .and .u32 (x:Int) 255=((x % 256:Nat):Int):=by
 have:=u32_and_nat x 255 h (by omega);rw[show((255:Nat):Int)=255 from rfl]at this;rw[this,show(255:Nat)=2 ^ 8 - 1 from rfl,Nat.and_two_pow_sub_one_eq_mod]
theorem byte0{a:Nat}(h:a<4294967296):bits .and .u32 ((a:Int) / 16777216) 255=(byteA a 0:Int):=by
 have:=and255 (a / 16777216) (by omega);rw[show((a / 16777216:Nat):Int)=(a:Int) / 16777216 from by omega]at this;rw[this];rfl
theorem byte1{a:Nat}(h:a<4294967296):bits .and .u32 ((a:Int) / 65536) 255=(byteA a 1:Int):=by
 have:=and255 (a / 65536) (by omega);rw[show((a / 65536:Nat):Int)=(a:Int) / 65536 from by omega]at this;rw[this];rfl
theorem byte2{a:Nat}(h:a<4294967296):bits .and .u32 ((a:Int) / 256) 255=(byteA a 2:Int):=by
 have:=and255 (a / 256) (by omega);rw[show((a / 256:Nat):Int)=(a:Int) / 256 from by omega]at this;rw[this];rfl
theorem byte3{a:Nat}(h:a<4294967296):bits .and .u32 (a:Int) 255=(byteA a 3:Int):=by
 have:=and255 a h;rw[this];simp[byteA]
theorem byteTop{a:Nat}(h:a<4294967296):(a:Int) / 16777216=(byteA a 0:Int):=by
 unfold byteA;simp;omega
theorem cells_app(a b:List UInt8):Lib.byteCells (a++b)=Lib.byteCells a++Lib.byteCells b:=by simp[Lib.byteCells]
theorem fmt_first(a:Nat):fmtTo a 1=fmtTo a 0++dec (byteA a 0):=by simp[fmtTo]
theorem fmt_next(a k:Nat)(hk:0<k):fmtTo a (k+1)=(fmtTo a k++[46])++dec (byteA a k):=by
 rw[fmtTo,if_neg (by omega)]
theorem one_int(n:Int):∀u∈(#[Value.int .u8 n]:Array Value).toList,u.oneCell' = true:=by
 intro u hu;simp at hu;subst hu;rfl
def zIf(a:Nat)(w:World)(k:Nat)(v:Value)(wr:World):Prop:=wr.ownsRow w.heap.size 5 1 v (fmtTo a k).length (Lib.byteCells (fmtTo a k))∧Below w.heap.size w wr
theorem fmtRel_first{a:Nat}{w wr w' : World}{v v' : Value}(h:zIf a w 0 v wr)(h1:w'.ownsRow w.heap.size 5 1 v' ((fmtTo a 0).length+(dec (byteA a 0)).length) (Lib.byteCells (fmtTo a 0)++Lib.byteCells (dec (byteA a 0))))(h2:Below w.heap.size wr w'):zIf a w 1 v' w' := by
 refine⟨?_,h.2.trans h2⟩;rw[fmt_first,cells_app,List.length_append];exact h1
theorem zHr{a k:Nat}(hk:0<k){w w0 w1 w' : World}{v v' : Value}(h:zIf a w k v w0)(hb:Below w.heap.size w0 w1)
  (h1:w'.ownsRow w.heap.size 5 1 v' ((fmtTo a k).length+1+(dec (byteA a k)).length) ((Lib.byteCells (fmtTo a k)++[Value.int .u8 46])++Lib.byteCells (dec (byteA a k)))) (h2:Below w.heap.size w1 w'):zIf a w (k+1) v' w' := by
 refine⟨?_,(h.2.trans hb).trans h2⟩;rw[fmt_next a k hk,cells_app,cells_app,List.length_append,List.length_append];exact h1
set_option maxRecDepth 4000 in
theorem zCy(a:Nat)(w:World)(ha:a<4294967296)(he:Env w):Calls Tryz.prog 48 #[.int .u32 (a:Int)] w fun e w' => e=.returned (.string (str (fmtA a)))∧Below w.heap.size w w' := by
 obtain⟨i0,hi0,hz0,hz1,hz2⟩:=info_parts Tryz.byteInfo;have Hi0:=hid hi0;have Hz0:=hid hz0;have Hz1:=hid hz1;have Hz2:=hid hz2;clear hi0 hz0 hz1 hz2;have hmk:∀w,(Instr.makeSlice 59 (.int .i64 0) (.int .i64 15)).run Tryz.prog w=.ok (.slice (some ⟨w.heap.size,0,none⟩) 0 15) (w.alloc (.cells (madeCells #[.int .u8 0] 15) 5)):=fun _=>by kernel_rfl
 have HE:=hid he;have E0:=byte0 ha;have E1:=byte1 ha;have E2:=byte2 ha;have E3:=byte3 ha;have b0:=zFj a 0;have b1:=zFj a 1;have b2:=zFj a 2;have b3:=zFj a 3;clear he;go_enter Tryz.func48,Tryz.ntmps48;go_wp2_with fail;clear hmk;go_loopg [3,4] 4 (fun g v i wr=>((g=4∧i=.int .i64 24∧Hid (zIf a w 0 v wr))∨(g=3∧i=.int .i64 16∧Hid (zIf a w 1 v wr))∨(g=2∧i=.int .i64 8∧Hid (zIf a w 2 v wr))∨(g=1∧i=.int .i64 0∧Hid (zIf a w 3 v wr))∨(g=0∧i=.int .i64 (-8)∧Hid (zIf a w 4 v wr))));case atStart=>
  refine .inl ⟨rfl,rfl,hid ⟨?_,(Below.refl _ _).alloc (Nat.le_refl _) _⟩⟩;exact World.ownsRow_made w _ 15 (Nat.le_refl _) (by decide) (by simp[madeCells])
 case round=>
  rcases hrel with⟨hg,rfl,H⟩|⟨hg,rfl,H⟩|⟨hg,rfl,H⟩|⟨hg,rfl,H⟩|⟨hg,rfl,H⟩
  ·go_wp2_with fail
   refine(zEv w.heap.size _ _ b0 _ _ _ (HE.out.below H.out.2) H.out.1 H.out.2.size (by have:=zHb a 0;omega)).mono ?_;rintro e w1 ⟨v1,rfl,ho1,hb1⟩;go_wp2;go_roundg 3;case measure=>omega
   case rel=>exact .inr (.inl ⟨rfl,rfl,hid (fmtRel_first H.out ho1 hb1)⟩)
  ·have hsz:=H.out.2.size
   have hln:=zHb a 1;go_wp2_with (first|(at_builtin;refine zCq _ rfl _ _ 59 rfl w.heap.size 5 i0 _ 1 1 Tryz.underlying59 Hi0.out Hz0.out Hz1.out Hz2.out rfl (by decide) _ _ _ rfl H.out.1 #[.int .u8 46] rfl rfl (one_int _) (by omega) (by decide) hsz ?_;intro v0 w0 ho0 hb0));refine(zEv w.heap.size _ _ b1 _ _ _ (HE.out.below (H.out.2.trans hb0)) ho0 (Nat.le_trans hsz hb0.size) (by omega)).mono ?_;rintro e w1 ⟨v1,rfl,ho1,hb1⟩;go_wp2;go_roundg 2;case measure=>omega
   case rel=>exact .inr (.inr (.inl ⟨rfl,rfl,hid (zHr (by omega) H.out hb0 ho1 hb1)⟩))
  ·have hsz:=H.out.2.size
   have hln:=zHb a 2;go_wp2_with (first|(at_builtin;refine zCq _ rfl _ _ 59 rfl w.heap.size 5 i0 _ 1 1 Tryz.underlying59 Hi0.out Hz0.out Hz1.out Hz2.out rfl (by decide) _ _ _ rfl H.out.1 #[.int .u8 46] rfl rfl (one_int _) (by omega) (by decide) hsz ?_;intro v0 w0 ho0 hb0));refine(zEv w.heap.size _ _ b2 _ _ _ (HE.out.below (H.out.2.trans hb0)) ho0 (Nat.le_trans hsz hb0.size) (by omega)).mono ?_;rintro e w1 ⟨v1,rfl,ho1,hb1⟩;go_wp2;go_roundg 1;case measure=>omega
   case rel=>exact .inr (.inr (.inr (.inl ⟨rfl,rfl,hid (zHr (by omega) H.out hb0 ho1 hb1)⟩)))
  ·have hsz:=H.out.2.size
   have hln:=zHb a 3;go_wp2_with (first|(at_builtin;refine zCq _ rfl _ _ 59 rfl w.heap.size 5 i0 _ 1 1 Tryz.underlying59 Hi0.out Hz0.out Hz1.out Hz2.out rfl (by decide) _ _ _ rfl H.out.1 #[.int .u8 46] rfl rfl (one_int _) (by omega) (by decide) hsz ?_;intro v0 w0 ho0 hb0));refine(zEv w.heap.size _ _ b3 _ _ _ (HE.out.below (H.out.2.trans hb0)) ho0 (Nat.le_trans hsz hb0.size) (by omega)).mono ?_;rintro e w1 ⟨v1,rfl,ho1,hb1⟩;go_wp2;go_roundg 0;case measure=>omega
   case rel=>exact .inr (.inr (.inr (.inr ⟨rfl,rfl,hid (zHr (by omega) H.out hb0 ho1 hb1)⟩)))
  ·have hpos:0<(fmtTo a 4).length:=by
    rw[fmt_next a 3 (by omega)];simp;omega
   obtain⟨gb,cap,ev,_,_,hc⟩:=own_form H.out.1 hpos;have hb:=hid H.out.2;clear H
   have hconv:(convert 59 9 (.slice (some ⟨gb,0,none⟩) (fmtTo a 4).length cap)).run Tryz.prog wr=.ok (.string (str (fmtA a))) wr:=by
    refine run_convert_bytes_back (P:=Tryz.prog) wr 59 9 5 ⟨gb,0,none⟩ cap (fmtTo a 4) Tryz.underlying59 Tryz.underlying5 Tryz.underlying9 (fun j hj=>?_);rw[addr_add,Nat.zero_add];exact hc j _ (by simp[Lib.byteCells,hj])
   subst ev;clear hc;go_wp2;go_ret;exact⟨rfl,hb.out⟩
theorem dot_app(l:List UInt8):str l++(⟨#[46]⟩:ByteArray)=str (l++[46]):=zGr l [46]
theorem fmtA_eq(a:Nat):fmtA a=dec (byteA a 0)++[46]++dec (byteA a 1)++[46]++dec (byteA a 2)++[46]++dec (byteA a 3):=by
 simp[fmtA,fmtTo]
theorem sz3{n:Nat}(h:n<256):(str (dec n)).size≤3:=by rw[zBx];exact dec3 h
theorem zKj(x:Int)(n:Nat)(h:x=(n:Int))(hn:n<256)(w:World):Calls Tryz.prog 64 #[.int .i64 x] w fun e w' => e=.returned (.string (str (dec n)))∧w=w' := by
 subst h;exact zIa n w (by omega)
set_option maxRecDepth 4000 in
theorem zDj(a:Nat)(w:World)(ha:a<4294967296):Calls Tryz.prog 72 #[.int .u32 (a:Int)] w fun e w' => e=.returned (.string (str (fmtA a)))∧w=w' := by
 have T:=hid (byteTop ha);have E1:=byte1 ha;have E2:=byte2 ha;have E3:=byte3 ha;have b0:=zFj a 0;have b1:=zFj a 1;have b2:=zFj a 2;have b3:=zFj a 3;have s0:=sz3 b0;have s1:=sz3 b1;have s2:=sz3 b2;have s3:=sz3 b3;have F:=hid (fmtA_eq a);go_enter Tryz.func72,Tryz.ntmps72;go_wp2_with fail;refine(zKj _ (byteA a 0) T.out b0 _).mono ?_;rintro e w' ⟨rfl,rfl⟩;go_wp2_with fail;refine(zKj _ (byteA a 1) rfl b1 _).mono ?_;rintro e w' ⟨rfl,rfl⟩;rw[dot_app];have s4:(str (dec (byteA a 0)++[46])).size≤4:=by rw[zBx]at s0⊢;simp;omega
 generalize hx:dec (byteA a 0)++[46]=x1 at *;have X1:=hid hx;clear hx;go_wp2_with fail;refine(zKj _ (byteA a 2) rfl b2 _).mono ?_;rintro e w' ⟨rfl,rfl⟩;rw[zGr,dot_app];have s5:(str (x1++dec (byteA a 1)++[46])).size≤8:=by rw[zBx]at s4 s1⊢;simp;omega
 generalize hx:x1++dec (byteA a 1)++[46]=x2 at *;have X2:=hid hx;clear hx;go_wp2_with fail;refine(zKj _ (byteA a 3) rfl b3 _).mono ?_;rintro e w' ⟨rfl,rfl⟩;rw[zGr,dot_app];have s6:(str (x2++dec (byteA a 2)++[46])).size≤12:=by rw[zBx]at s5 s2⊢;simp;omega
 generalize hx:x2++dec (byteA a 2)++[46]=x3 at *;have X3:=hid hx;clear hx;go_wp2;go_ret;refine⟨?_,rfl⟩;have e:fmtA a=x3++dec (byteA a 3):=by rw[F.out,←X3.out,←X2.out,←X1.out]
 rw[e,←zGr];rfl
theorem itoa_any(m:Nat)(h:m<100)(w:World):Calls Tryz.prog 40 #[.int .i64 (m:Int)] w fun e w' => e=.returned (.string (str (dec m)))∧w=w' := by
 refine(Tryz.strconv_Itoa_small m h w).mono ?_;rintro e w' ⟨rfl,rfl⟩;rw[dec_lib];exact⟨rfl,rfl⟩
def hostF(a:Nat)(n:Int):List UInt8:=if 0≤n∧n≤32 then fmtA a++[47]++dec n.toNat else []
theorem zEu(a:Nat):(fmtA a).length≤16:=zHb a 4
theorem slash_app(l:List UInt8):str l++(⟨#[47]⟩:ByteArray)=str (l++[47]):=zGr l [47]
set_option maxRecDepth 4000 in
theorem zFx(a:Nat)(n:Int)(w:World)(ha:a<4294967296)(he:Env w):Calls Tryz.prog 42 #[.int .u32 (a:Int),.int .i64 n] w fun e w' => e=.returned (.string (str (hostF a n)))∧Below w.heap.size w w' := by
 by_cases h0:n<0
 ·have E:Hid (hostF a n=[]):=hid (by unfold hostF;rw[if_neg (by omega)])
  go_enter Tryz.func42,Tryz.ntmps42;go_wp2;go_ret;exact⟨by rw[E.out];rfl,Below.refl _ _⟩
 by_cases h1:32<n
 ·have E:Hid (hostF a n=[]):=hid (by unfold hostF;rw[if_neg (by omega)])
  go_enter Tryz.func42,Tryz.ntmps42;go_wp2;go_ret;exact⟨by rw[E.out];rfl,Below.refl _ _⟩
 obtain⟨m,rfl⟩:=Int.eq_ofNat_of_zero_le (Int.not_lt.1 h0);have E:Hid (hostF a m=fmtA a++[47]++dec m):=hid (by unfold hostF;rw[if_pos (by omega),Int.toNat_natCast]);have s0:(str (fmtA a)).size≤16:=by rw[zBx];exact zEu a
 have s1:(str (dec m)).size≤3:=by rw[zBx];exact zGy 2 m (by omega)
 have d0:decide ((m:Int)<0)=false:=by simp
 have d1:decide ((32:Int)<m)=false:=by simp;omega
 have HE:=hid he;clear he;go_enter Tryz.func42,Tryz.ntmps42;go_wp2_with fail;refine(zCy a _ ha HE.out).mono ?_;rintro e w1 ⟨rfl,hb1⟩;go_wp2_with fail;refine(itoa_any m (by omega) _).mono ?_;rintro e w2 ⟨rfl,rfl⟩;rw[slash_app];have s2:(str (fmtA a++[47])).size≤17:=by rw[zBx]at s0⊢;simp;omega
 generalize hx:fmtA a++[47]=x1 at *;have X1:=hid hx;clear hx;go_wp2;go_ret;exact⟨by rw[E.out,←zGr];rfl,hb1⟩
def pfxF(p:Nat)(n:Int):List UInt8:=if zAv p n then hostF p n else []
set_option maxRecDepth 4000 in
theorem zBr(p:Nat)(n:Int)(w:World)(hp:p<4294967296)(he:Env w):Calls Tryz.prog 50 #[PV p n] w fun e w' => e=.returned (.string (str (pfxF p n)))∧Below w.heap.size w w' := by
 have C1:=fun w=>zEn p n w hp
 unfold PV at C1⊢;have H1:=hid C1;have HE:=hid he;clear C1 he;cases hv:zAv p n with
 |false=>
  have E:Hid (pfxF p n=[]):=hid (by unfold pfxF;rw[hv];rfl);go_enter Tryz.func50,Tryz.ntmps50;go_wp2_with fail;refine(H1.out _).mono ?_;rintro e w1 ⟨rfl,hb1⟩;have hb:Below w.heap.size w w1:=((Below.refl _ w).alloc (Nat.le_refl _) _).trans (hb1.mono (by simp));clear hb1;go_wp2;go_ret;exact⟨by rw[E.out];rfl,hb⟩
 |true=>
  have E:Hid (pfxF p n=hostF p n):=hid (by unfold pfxF;rw[hv];rfl);go_enter Tryz.func50,Tryz.ntmps50;go_wp2_with fail;refine(H1.out _).mono ?_;rintro e w1 ⟨rfl,hb1⟩;have hb:Below w.heap.size w w1:=((Below.refl _ w).alloc (Nat.le_refl _) _).trans (hb1.mono (by simp));have c0:w1.cell? ⟨w.heap.size,0,none⟩=some (.int .u32 (p:Int)):=by rw[hb1.cell (p:=⟨w.heap.size,0,none⟩) (by simp),zDf];rfl
  have c1:w1.cell? ⟨w.heap.size,1,none⟩=some (.int .i64 n):=by rw[hb1.cell (p:=⟨w.heap.size,1,none⟩) (by simp),zDf];rfl
  clear hb1;go_wp2_with fail;refine(zFx p n _ hp (HE.out.below hb)).mono ?_;rintro e w2 ⟨rfl,hb2⟩;clear c0 c1;go_wp2;go_ret;exact⟨by rw[E.out];rfl,hb.trans (hb2.mono hb.size)⟩
def hostA(l:List UInt8):Option (Nat × Int) :=
 if 0≤Lib.index l [47]then
  match zDa (l.take (Lib.index l [47]).toNat),numIn (l.drop ((Lib.index l [47]).toNat+1)) 0 32 with
  |some a,some n=>some (a,n)
  |_,_=>none
 else none
def zGj(o:Option (Nat × Int))(w:World)(e:Ending)(w' : World):Prop :=
 e=.returned (.tuple #[.int .u32 (((o.getD (0,0)).1:Nat):Int),.int .i64 (o.getD (0,0)).2,.bool o.isSome])∧Below w.heap.size w w'
theorem zGi{o:Option (Nat × Int)}{w w' : World}(h:o=none)(hb:Below w.heap.size w w'):zGj o w (.returned (.tuple #[.int .u32 0,.int .i64 0,.bool false])) w' := by
 subst h;exact⟨rfl,hb⟩
theorem hostPost_some{o:Option (Nat × Int)}{a:Nat}{n:Int}{w w' : World}(h:o=some (a,n))(hb:Below w.heap.size w w'):zGj o w (.returned (.tuple #[.int .u32 (a:Int),.int .i64 n,.bool true])) w' := by
 subst h;exact⟨rfl,hb⟩
theorem host_miss{l:List UInt8}(h:Lib.index l [47] = -1):hostA l=none:=by unfold hostA;rw[h];rfl
theorem host_hit{l:List UInt8}{i:Nat}(h:Lib.index l [47]=i):hostA l=match zDa (l.take i),numIn (l.drop (i+1)) 0 32 with|some a,some n=>some (a,n)|_,_=>none:=by
 unfold hostA;rw[h,if_pos (by omega),Int.toNat_natCast]
theorem host_no1{l:List UInt8}{i:Nat}(h:Lib.index l [47]=i)(hp:zDa (l.take i)=none):hostA l=none:=by rw[host_hit h,hp]
theorem host_no2{l:List UInt8}{i:Nat}(h:Lib.index l [47]=i)(hn:numIn (l.drop (i+1)) 0 32=none):hostA l=none:=by
 rw[host_hit h,hn];cases zDa (l.take i)<;>rfl
theorem host_yes{l:List UInt8}{i a:Nat}{n:Int}(h:Lib.index l [47]=i)(hp:zDa (l.take i)=some a)(hn:numIn (l.drop (i+1)) 0 32=some n):hostA l=some (a,n):=by rw[host_hit h,hp,hn]
theorem index_cases(l:List UInt8):Lib.index l [47] = -1∨∃i:Nat,Lib.index l [47]=i:=by
 have:=Lib.index_ge l [47];by_cases h:Lib.index l [47] = -1
 ·exact .inl h
 ·exact .inr ⟨(Lib.index l [47]).toNat,by omega⟩
theorem parse_none{s:ByteArray}(h:zDa (bytes s)=none)(w:World)(he:Env w)(hs:s.size≤1000000000):Calls Tryz.prog 258 #[.string s] w fun e w' => e=.returned (.tuple #[.int .u32 0,.bool false])∧Below w.heap.size w w' := by
 refine(parse_any s w he hs).mono ?_;rw[h];rintro e w' ⟨rfl,hb⟩;exact⟨rfl,hb⟩
theorem parse_some{s:ByteArray}{a:Nat}(h:zDa (bytes s)=some a)(w:World)(he:Env w)(hs:s.size≤1000000000):Calls Tryz.prog 258 #[.string s] w fun e w' => e=.returned (.tuple #[.int .u32 (a:Int),.bool true])∧Below w.heap.size w w' := by
 refine(parse_any s w he hs).mono ?_;rw[h];rintro e w' ⟨rfl,hb⟩;exact⟨rfl,hb⟩
theorem cut_hit{s:ByteArray}{i:Nat}(h:Lib.index (bytes s) [47]=i)(w:World)(he:Env w)(hs:s.size≤1000000000):Calls Tryz.prog 259 #[.string s,.string ⟨#[47]⟩] w fun e w' =>
  e=.returned (.tuple #[.string (str ((bytes s).take i)),.string (str ((bytes s).drop (i+1))),.bool true])∧Below w.heap.size w w' := by
 obtain⟨⟨m,hm⟩,_⟩:=he;refine(Tryz.strings_Cut s ⟨#[47]⟩ m w (by omega) hm).mono ?_;rintro e w' ⟨rfl,q,rfl⟩
 have e1:Lib.cut s.data.toList (⟨#[47]⟩:ByteArray).data.toList=((bytes s).take i,(bytes s).drop (i+1),true):=by
  show Lib.cut (bytes s) [47]=_;unfold Lib.cut;rw[h,if_pos (by omega),Int.toNat_natCast];rfl
 rw[e1];exact⟨rfl,zGq w q⟩
theorem cut_miss{s:ByteArray}(h:Lib.index (bytes s) [47] = -1)(w:World)(he:Env w)(hs:s.size≤1000000000):Calls Tryz.prog 259 #[.string s,.string ⟨#[47]⟩] w fun e w' =>
  e=.returned (.tuple #[.string s,.string (str []),.bool false])∧Below w.heap.size w w' := by
 obtain⟨⟨m,hm⟩,_⟩:=he;refine(Tryz.strings_Cut s ⟨#[47]⟩ m w (by omega) hm).mono ?_;rintro e w' ⟨rfl,q,rfl⟩
 have e1:Lib.cut s.data.toList (⟨#[47]⟩:ByteArray).data.toList=(bytes s,[],false):=by
  show Lib.cut (bytes s) [47]=_;unfold Lib.cut;rw[h,if_neg (by omega)]
 rw[e1];exact⟨rfl,zGq w q⟩
theorem take_small{s:ByteArray}{i n:Nat}(hs:s.size≤n):(str ((bytes s).take i)).size≤n:=by rw[zBx,List.length_take,zCl];omega
theorem drop_small{s:ByteArray}{i n:Nat}(hs:s.size≤n):(str ((bytes s).drop i)).size≤n:=by rw[zBx,List.length_drop,zCl];omega
set_option maxRecDepth 4000 in
theorem zIi(s:ByteArray)(w:World)(he:Env w)(hs:s.size≤1000000000):Calls Tryz.prog 224 #[.string s] w (zGj (hostA (bytes s)) w):=by
 have HE:=hid he;clear he;rcases index_cases (bytes s)with h|⟨i,h⟩
 ·have HI:=hid h
  have HF:=hid (host_miss h);clear h;go_enter Tryz.func224,Tryz.ntmps224;go_wp2_with fail;refine(cut_miss HI.out _ HE.out hs).mono ?_;rintro e w1 ⟨rfl,hb1⟩;go_wp2_with fail;go_ret3;exact zGi HF.out hb1
 have HI:=hid h;have s1:=take_small (i:=i) hs;have s2:=drop_small (i:=i+1) hs;clear h;cases hp:zDa ((bytes s).take i)with
 |none=>
  have HP:=hid hp;have HF:=hid (host_no1 HI.out hp);clear hp;go_enter Tryz.func224,Tryz.ntmps224;go_wp2_with fail;refine(cut_hit HI.out _ HE.out hs).mono ?_;rintro e w1 ⟨rfl,hb1⟩;have hz:=hb1.size;go_wp2_with fail;refine(parse_none (by rw[zBq];exact HP.out) _ (HE.out.below hb1) s1).mono ?_;rintro e w2 ⟨rfl,hb2⟩;go_wp2_with fail;go_ret3;exact zGi HF.out (hb1.trans (hb2.mono hz))
 |some a=>
  have HP:=hid hp;clear hp;cases hn:numIn ((bytes s).drop (i+1)) 0 32 with
  |none=>
   have HN:=hid hn;have HF:=hid (host_no2 HI.out hn);clear hn;go_enter Tryz.func224,Tryz.ntmps224;go_wp2_with fail;refine(cut_hit HI.out _ HE.out hs).mono ?_;rintro e w1 ⟨rfl,hb1⟩;have hz:=hb1.size;go_wp2_with fail;refine(parse_some (by rw[zBq];exact HP.out) _ (HE.out.below hb1) s1).mono ?_;rintro e w2 ⟨rfl,hb2⟩;go_wp2_with fail;refine(number_none (by rw[zBq];exact HN.out) _).mono ?_;rintro e w' ⟨rfl,rfl⟩;go_wp2_with fail;go_ret3;exact zGi HF.out (hb1.trans (hb2.mono hz))
  |some n=>
   have HN:=hid hn;have HF:=hid (host_yes HI.out HP.out hn);clear hn;go_enter Tryz.func224,Tryz.ntmps224;go_wp2_with fail;refine(cut_hit HI.out _ HE.out hs).mono ?_;rintro e w1 ⟨rfl,hb1⟩;have hz:=hb1.size;go_wp2_with fail;refine(parse_some (by rw[zBq];exact HP.out) _ (HE.out.below hb1) s1).mono ?_;rintro e w2 ⟨rfl,hb2⟩;go_wp2_with fail;refine(number_some (by rw[zBq];exact HN.out) _).mono ?_;rintro e w' ⟨rfl,rfl⟩;go_wp2_with fail;go_ret3;exact hostPost_some HF.out (hb1.trans (hb2.mono hz))
def pfxA(l:List UInt8):Option (Nat × Int):=match hostA l with
 |none=>none
 |some (a,n)=>if zAv a n then some (a,n)else none
def PfxPost(o:Option (Nat × Int))(w:World)(e:Ending)(w' : World):Prop :=
 e=.returned (.tuple #[PV (o.getD (0,0)).1 (o.getD (0,0)).2,.bool o.isSome])∧Below w.heap.size w w'
theorem hostA_lt{l:List UInt8}{a:Nat}{n:Int}(h:hostA l=some (a,n)):a<4294967296∧0≤n∧n≤32:=by
 unfold hostA at h;split at h
 ·cases hp:zDa (l.take (Lib.index l [47]).toNat)with
  |none=>simp[hp]at h
  |some b=>
   cases hn:numIn (l.drop ((Lib.index l [47]).toNat+1)) 0 32 with
   |none=>simp[hp,hn]at h
   |some m=>
    simp only[hp,hn,Option.some.injEq,Prod.mk.injEq]at h;obtain⟨rfl,rfl⟩:=h;exact⟨zHc hp,numIn_bd hn⟩
 ·cases h
theorem host_none{s:ByteArray}(h:hostA (bytes s)=none){w w' : World}{e:Ending}(hp:zGj (hostA (bytes s)) w e w'):e=.returned (.tuple #[.int .u32 0,.int .i64 0,.bool false])∧Below w.heap.size w w' := by
 rw[h]at hp;exact hp
theorem host_some{s:ByteArray}{a:Nat}{n:Int}(h:hostA (bytes s)=some (a,n)){w w' : World}{e:Ending}(hp:zGj (hostA (bytes s)) w e w'):e=.returned (.tuple #[.int .u32 (a:Int),.int .i64 n,.bool true])∧Below w.heap.size w w' := by
 rw[h]at hp;exact hp
theorem res_box{w w1:World}{a b:Value}{t:TypeId}(hb1:Below (w.alloc (.cells #[a,b] t)).heap.size (w.alloc (.cells #[a,b] t)) w1) :
  Below w.heap.size w w1∧w.heap.size+1≤w1.heap.size∧w1.cell? ⟨w.heap.size,0,none⟩=some a∧w1.cell? ⟨w.heap.size,1,none⟩=some b∧∀j,w1.frozen? ⟨w.heap.size,j,none⟩=false:=by
 refine⟨((Below.refl _ w).alloc (Nat.le_refl _) _).trans (hb1.mono (by simp)),by have:=hb1.size;simpa using this,?_,?_,fun j=>?_⟩
 ·rw[hb1.cell (p:=⟨w.heap.size,0,none⟩) (by simp),zDf];rfl
 ·rw[hb1.cell (p:=⟨w.heap.size,1,none⟩) (by simp),zDf];rfl
 ·rw[hb1.frozen (p:=⟨w.heap.size,j,none⟩) (by simp)];exact World.frozen?_alloc_at _ _ _ _ rfl
theorem zDq {w1:World}{b j:Nat}{v:Value}(hz:b+1≤w1.heap.size)(h:w1.cell? ⟨b,j,none⟩=some v):∀o,(w1.alloc o).cell? ⟨b,j,none⟩=some v:=fun o=>(World.cell?_alloc_lt w1 o ⟨b,j,none⟩ (by show b<_;omega)).trans h
theorem zFh {w1:World}{b:Nat}(hz:b+1≤w1.heap.size)(h:∀j,w1.frozen? ⟨b,j,none⟩=false):∀o j,(w1.alloc o).frozen? ⟨b,j,none⟩=false:=fun o j=>(World.frozen?_alloc_old _ _ _ (by show b≠_;omega)).trans (h j)
set_option maxRecDepth 4000 in
theorem parsePrefix_any(s:ByteArray)(w:World)(he:Env w)(hs:s.size≤1000000000):Calls Tryz.prog 210 #[.string s] w (PfxPost (pfxA (bytes s)) w):=by
 have HH:=hid (fun w=>fun he=>zIi s w he hs);have HE:=hid he;clear he;cases h:hostA (bytes s)with
 |none=>
  have HF:Hid (pfxA (bytes s)=none):=hid (by unfold pfxA;rw[h]);have H:=hid h;clear h;go_enter Tryz.func210,Tryz.ntmps210;go_wp2_with fail;refine(HH.out _ (HE.out.below ((Below.refl _ w).alloc (Nat.le_refl _) _))).mono ?_;intro e w1 hpost;obtain⟨rfl,hb1⟩:=host_none H.out hpost;clear hpost;obtain⟨hb,hz,c0,c1,f0⟩:=res_box hb1;clear hb1;have c0' := zDq hz c0;have c1' := zDq hz c1;have f0' := zFh hz f0;go_wp2_with fail;refine bodyPost_ret (v:=.tuple #[PV 0 0,.bool false]) (by simp[results,Tryz.results210,go_sem,PV, *]) rfl ⟨by rw[HF.out];rfl,?_⟩;exact((hb.alloc hb.size _).setCell (Nat.le_refl _) _).setCell (Nat.le_refl _) _
 |some r=>
  obtain⟨a,n⟩:=r;obtain⟨ha,_,_⟩:=hostA_lt h;have H:=hid h;have HV:=hid (fun w=>zEn a n w ha);unfold PV at HV;cases hv:zAv a n with
  |false=>
   have HF:Hid (pfxA (bytes s)=none):=hid (by unfold pfxA;rw[h];simp[hv]);clear h;go_enter Tryz.func210,Tryz.ntmps210;go_wp2_with fail;refine(HH.out _ (HE.out.below ((Below.refl _ w).alloc (Nat.le_refl _) _))).mono ?_;intro e w1 hpost;obtain⟨rfl,hb1⟩:=host_some H.out hpost;clear hpost;obtain⟨hb,hz,c0,c1,f0⟩:=res_box hb1;clear hb1;have c0' := zDq hz c0;have c1' := zDq hz c1;have f0' := zFh hz f0;go_wp2_with fail;refine(HV.out _).mono ?_;rintro e w2 ⟨rfl,hb2⟩;have hz2:w1.heap.size+1≤w2.heap.size:=by have:=hb2.size;simpa using this
   have hb3:Below w.heap.size w w2:=(hb.alloc hb.size _).trans (hb2.mono (by simp;omega));have c0'' := (hb2.cell (p:=⟨w.heap.size,0,none⟩) (by simp;omega)).trans (c0' _);have c1'' := (hb2.cell (p:=⟨w.heap.size,1,none⟩) (by simp;omega)).trans (c1' _);have f0'' :∀j,w2.frozen? ⟨w.heap.size,j,none⟩=false:=fun j=>(hb2.frozen (p:=⟨w.heap.size,j,none⟩) (by simp;omega)).trans (f0' _ j)
   clear hb2 c0 c1 f0 c0' c1' f0';go_wp2_with fail;refine bodyPost_ret (v:=.tuple #[PV 0 0,.bool false]) (by simp[results,Tryz.results210,go_sem,PV, *]) rfl ⟨by rw[HF.out];rfl,?_⟩;exact(hb3.setCell (Nat.le_refl _) _).setCell (Nat.le_refl _) _
  |true=>
   have HF:Hid (pfxA (bytes s)=some (a,n)):=hid (by unfold pfxA;rw[h];simp[hv]);clear h;go_enter Tryz.func210,Tryz.ntmps210;go_wp2_with fail;refine(HH.out _ (HE.out.below ((Below.refl _ w).alloc (Nat.le_refl _) _))).mono ?_;intro e w1 hpost;obtain⟨rfl,hb1⟩:=host_some H.out hpost;clear hpost;obtain⟨hb,hz,c0,c1,f0⟩:=res_box hb1;clear hb1;have c0' := zDq hz c0;have c1' := zDq hz c1;have f0' := zFh hz f0;go_wp2_with fail;refine(HV.out _).mono ?_;rintro e w2 ⟨rfl,hb2⟩;have hz2:w1.heap.size+1≤w2.heap.size:=by have:=hb2.size;simpa using this
   have hb3:Below w.heap.size w w2:=(hb.alloc hb.size _).trans (hb2.mono (by simp;omega));have c0'' := (hb2.cell (p:=⟨w.heap.size,0,none⟩) (by simp;omega)).trans (c0' _);have c1'' := (hb2.cell (p:=⟨w.heap.size,1,none⟩) (by simp;omega)).trans (c1' _);have f0'' :∀j,w2.frozen? ⟨w.heap.size,j,none⟩=false:=fun j=>(hb2.frozen (p:=⟨w.heap.size,j,none⟩) (by simp;omega)).trans (f0' _ j)
   have b0:w2.cell? ⟨w1.heap.size,0,none⟩=some (.int .u32 (a:Int)):=by rw[hb2.cell (p:=⟨w1.heap.size,0,none⟩) (by simp),zDf];rfl
   have b1:w2.cell? ⟨w1.heap.size,1,none⟩=some (.int .i64 n):=by rw[hb2.cell (p:=⟨w1.heap.size,1,none⟩) (by simp),zDf];rfl
   clear hb2 c0 c1 f0 c0' c1' f0';go_wp2_with fail;refine bodyPost_ret (v:=.tuple #[PV a n,.bool true]) (by simp[results,Tryz.results210,go_sem,PV, *]) rfl ⟨by rw[HF.out];rfl,?_⟩;exact(hb3.setCell (Nat.le_refl _) _).setCell (Nat.le_refl _) _
structure Ps where
 fs:List (List UInt8)
 bad:Bool
def Ps.fail(p:Ps):Ps:=⟨p.fs,true⟩
theorem pfxA_fit{l:List UInt8}{a:Nat}{n:Int}(h:pfxA l=some (a,n)):a<4294967296∧zAv a n=true:=by
 unfold pfxA at h;split at h
 ·cases h
 ·next b m hh=>
  split at h
  ·next hv=>
   simp only[Option.some.injEq,Prod.mk.injEq]at h;obtain⟨rfl,rfl⟩:=h;exact⟨(hostA_lt hh).1,hv⟩
  ·cases h
def Ps.short(p:Ps):Prop:=∀f∈p.fs,f.length≤1000000000
end Go.Proofs.YthcnojmldldpeaaGreatDoor
