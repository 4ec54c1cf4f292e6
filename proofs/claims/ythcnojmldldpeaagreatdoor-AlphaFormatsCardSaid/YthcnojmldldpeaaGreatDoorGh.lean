/- The walks of the reference's functions on prefixes. Condition: addresses are numbers below 2^32. -/
import Derived.Test.YthcnojmldldpeaaGreatDoorGe
import Derived.Deep.RegionHeld3
import Derived.Deep.LoopGhost
set_option maxHeartbeats 1000000
namespace Go.Proofs.YthcnojmldldpeaaGreatDoor
open Lib (hid)
open Go.RowKit
theorem quiet_l{P:Program}{f:FuncId}{args:Array Value}{w:World}{n:Nat}{v:Value}
  (h:Calls P f args (w.drewN n) fun e w' => e=.returned v∧w.drewN n=w'):Calls P f args (w.drewN n) fun e w'' => e=.returned v∧∃m,w'' = w.drewN m :=
 h.mono fun _ _ ⟨he,hm⟩=>⟨he,n,hm.symm⟩
theorem zFa(w:World)(o:Obj)(q:Nat):Below w.heap.size w ((w.alloc o).drewN q):=((Below.refl _ _).alloc (Nat.le_refl _) o).trans ⟨rfl,rfl,rfl,Nat.le_refl _,fun _ _=>rfl⟩
theorem clamp_any(n:Int)(w:World):Calls Tryz.prog 123 #[.int .i64 n] w fun e w' => e=.returned (.int .i64 (zBc n:Int))∧w=w' := by
 have hc:=clampN_cast n;by_cases h1:32<n
 ·have e:(zBc n:Int)=32:=by omega
  clear hc;go_enter Tryz.func123,Tryz.ntmps123;go_wp2;go_ret;exact⟨zAc (by rw[e]),rfl⟩
 by_cases h0:0<n
 ·have e:(zBc n:Int)=n:=by omega
  have E:=hid e;clear hc e;go_enter Tryz.func123,Tryz.ntmps123;go_wp2
  all_goals (go_ret;first|exact⟨zAc E.out.symm,rfl⟩|(exfalso;omega))
 ·have e:(zBc n:Int)=0:=by omega
  have E:=hid e;clear hc e;go_enter Tryz.func123,Tryz.ntmps123;go_wp2
  all_goals (go_ret;first|exact⟨zAc E.out.symm,rfl⟩|(exfalso;omega))
theorem zIr(n:Int)(w:World):Calls Tryz.prog 122 #[.int .i64 n] w fun e w' => e=.returned (.int .u32 (maskN n:Int))∧w=w' := by
 have h1:=clampN_le n;have E:=hid (mask_shift' n);go_enter Tryz.func122,Tryz.ntmps122;go_wp2_with fail;refine(clamp_any _ _).mono ?_;rintro e w' ⟨rfl,rfl⟩;go_wp2;go_ret;exact⟨zAc E.out,rfl⟩
set_option maxRecDepth 4000 in
theorem contains_any(p:Nat)(n:Int)(a:Nat)(w:World)(ha:a<4294967296):Calls Tryz.prog 148 #[PV p n,.int .u32 (a:Int)] w fun e w' => e=.returned (.bool (contP p n a))∧Below w.heap.size w w' := by
 have hi:=i_and ha n;have E:Hid ((((a / sz n*sz n:Nat):Int)==(p:Int))=contP p n a):=hid (by unfold contP;rw[Bool.eq_iff_iff];simp only[beq_iff_eq,decide_eq_true_eq];omega);unfold PV;go_enter Tryz.func148,Tryz.ntmps148;go_wp2_with fail
 go_quiet ((go_at_call 122;exact quiet_l (zIr _ _)))
 go_wp2;go_ret;exact⟨zAg E.out,zFa _ _ _⟩
set_option maxRecDepth 4000 in
theorem zEn(p:Nat)(n:Int)(w:World)(hp:p<4294967296):Calls Tryz.prog 84 #[PV p n] w fun e w' => e=.returned (.bool (zAv p n))∧Below w.heap.size w w' := by
 have hi:=i_anot hp n;unfold PV;by_cases h0:0≤n
 ·by_cases h1:n≤32
  ·have E:Hid ((((p % sz n:Nat):Int)==0)=zAv p n):=hid (by unfold zAv;simp only[h0,h1,decide_true,Bool.true_and];rw[Bool.eq_iff_iff];simp;omega)
   have d0:decide (0≤n)=true:=by simp[h0]
   have d1:decide (n≤32)=true:=by simp[h1]
   go_enter Tryz.func84,Tryz.ntmps84;go_wp2_with fail
   go_quiet ((go_at_call 122;exact quiet_l (zIr _ _)))
   go_wp2;go_ret;exact⟨zAg E.out,zFa _ _ _⟩
  ·have E:Hid (zAv p n=false):=hid (by unfold zAv;simp[h1])
   have d0:decide (0≤n)=true:=by simp[h0]
   have d1:decide (n≤32)=false:=by simp;omega
   clear hi;go_enter Tryz.func84,Tryz.ntmps84;go_wp2_with fail
   go_quiet (fail)
   go_wp2;go_ret;exact⟨zAg E.out.symm,zFa _ _ _⟩
 ·have E:Hid (zAv p n=false):=hid (by unfold zAv;simp[h0])
  have d0:decide (0≤n)=false:=by simp;omega
  clear hi;go_enter Tryz.func84,Tryz.ntmps84;go_wp2_with fail
  go_quiet (fail)
  go_wp2;go_ret;exact⟨zAg E.out.symm,zFa _ _ _⟩
theorem zDf(w:World)(cs:Array Value)(t:TypeId)(j:Nat):(w.alloc (.cells cs t)).cell? ⟨w.heap.size,j,none⟩=cs[j]?:=World.cell?_alloc_at _ _ _ _ rfl
theorem zFk{w w1:World}{a b c d:Value}{t u:TypeId}(hb:Below ((w.alloc (.cells #[a,b] t)).alloc (.cells #[c,d] u)).heap.size ((w.alloc (.cells #[a,b] t)).alloc (.cells #[c,d] u)) w1) :
  (w1.cell? ⟨w.heap.size,0,none⟩=some a∧w1.cell? ⟨w.heap.size,1,none⟩=some b)∧(w1.cell? ⟨w.heap.size+1,0,none⟩=some c∧w1.cell? ⟨w.heap.size+1,1,none⟩=some d)∧w.heap.size+2≤w1.heap.size∧Below w.heap.size w w1:=by
 have hz:((w.alloc (.cells #[a,b] t)).alloc (.cells #[c,d] u)).heap.size=w.heap.size+2:=by simp
 have hs:=hb.size;rw[hz]at hs
 have h1:∀j,w1.cell? ⟨w.heap.size,j,none⟩=(#[a,b]:Array Value)[j]?:=fun j=>by
  rw[hb.cell (p:=⟨w.heap.size,j,none⟩) (by rw[hz];show w.heap.size<_;omega),World.cell?_alloc_lt _ _ _ (by simp),zDf]
 have h2:∀j,w1.cell? ⟨w.heap.size+1,j,none⟩=(#[c,d]:Array Value)[j]?:=fun j=>by
  have e:w.heap.size+1=(w.alloc (.cells #[a,b] t)).heap.size:=by simp
  rw[hb.cell (p:=⟨w.heap.size+1,j,none⟩) (by rw[hz];show w.heap.size+1<_;omega),e,zDf]
 refine⟨⟨h1 0,h1 1⟩,⟨h2 0,h2 1⟩,hs,?_⟩;exact(((Below.refl _ w).alloc (Nat.le_refl _) _).alloc (by simp) _).trans (hb.mono (by rw[hz];omega))
set_option maxRecDepth 4000 in
theorem covers_any(p:Nat)(n:Int)(q:Nat)(m:Int)(w:World)(hq:q<4294967296):Calls Tryz.prog 121 #[PV p n,PV q m] w fun e w' => e=.returned (.bool (covP p n q m))∧Below w.heap.size w w' := by
 unfold PV;by_cases h:n≤m
 ·have d:decide (n≤m)=true:=by simp[h]
  have E:Hid (contP p n q=covP p n q m):=hid (by unfold covP;rw[d];rfl);go_enter Tryz.func121,Tryz.ntmps121;go_wp2_with fail;refine(contains_any p n q _ hq).mono ?_;rintro e w1 ⟨rfl,hb1⟩;obtain⟨_,_,_,hb⟩:=zFk hb1;clear hb1;go_wp2;go_ret;exact⟨zAg E.out,hb⟩
 ·have d:decide (n≤m)=false:=by simp;omega
  have E:Hid (covP p n q m=false):=hid (by unfold covP;rw[d];rfl);go_enter Tryz.func121,Tryz.ntmps121;go_wp2;go_ret;exact⟨zAg E.out.symm,((Below.refl _ w).alloc (Nat.le_refl _) _).alloc (by simp) _⟩
set_option maxRecDepth 4000 in
theorem zJv(p:Nat)(n:Int)(q:Nat)(m:Int)(w:World)(hp:p<4294967296)(hq:q<4294967296):Calls Tryz.prog 80 #[PV p n,PV q m] w fun e w' => e=.returned (.bool (overP p n q m))∧Below w.heap.size w w' := by
 unfold PV;have C1:=fun w=>covers_any p n q m w hq
 have C2:=fun w=>covers_any q m p n w hp
 unfold PV at C1 C2;have H1:=hid C1;have H2:=hid C2;clear C1 C2;cases hc:covP p n q m with
 |true=>
  have E:Hid (overP p n q m=true):=hid (by unfold overP;rw[hc];rfl);go_enter Tryz.func80,Tryz.ntmps80;go_wp2_with fail;refine(H1.out _).mono ?_;rintro e w1 ⟨rfl,hb1⟩;obtain⟨_,_,_,hb⟩:=zFk hb1;clear hb1;go_wp2;go_ret;exact⟨zAg E.out.symm,hb⟩
 |false=>
  have E:Hid (covP q m p n=overP p n q m):=hid (by unfold overP;rw[hc];rfl);go_enter Tryz.func80,Tryz.ntmps80;go_wp2_with fail;refine(H1.out _).mono ?_;rintro e w1 ⟨rfl,hb1⟩;obtain⟨⟨c0,c1⟩,⟨c2,c3⟩,hz,hb⟩:=zFk hb1;clear hb1;go_wp2_with fail;refine(H2.out _).mono ?_;rintro e w2 ⟨rfl,hb2⟩;clear c0 c1 c2 c3;go_wp2;go_ret;exact⟨zAg E.out,hb.trans (hb2.mono (by omega))⟩
set_option maxRecDepth 4000 in
theorem network_any(a:Nat)(n:Int)(w:World)(ha:a<4294967296):Calls Tryz.prog 81 #[.int .u32 (a:Int),.int .i64 n] w fun e w' => e=.returned (PV (a / sz n*sz n) (zBc n))∧Below w.heap.size w w' := by
 have hi:=i_and ha n;go_enter Tryz.func81,Tryz.ntmps81;go_wp2_with fail;refine(zIr _ _).mono ?_;rintro e w' ⟨rfl,rfl⟩;go_wp2_with fail;refine(clamp_any _ _).mono ?_;rintro e w' ⟨rfl,rfl⟩;go_wp2_with fail;refine bodyPost_ret (v:=PV (a / sz n*sz n) (zBc n)) (by simp[results,Tryz.results81,go_sem,PV]) rfl ⟨rfl,?_⟩;exact(Below.refl _ _).alloc (Nat.le_refl _) _
def zBh(m:Nat):Nat→Option Nat
 |0=>none
 |k+1=>if maskN ((33 - (k+1):Nat):Int)=m then some (33 - (k+1))else zBh m k
theorem zJp(m k:Nat)(h:k≤32):zBh m (33 - k)=if maskN (k:Int)=m then some k else zBh m (33 - (k+1)):=by
 rw[show 33 - k=(32 - k)+1 from by omega,zBh,show 33 - (32 - k+1)=k from by omega,show 33 - (k+1)=32 - k from by omega]
set_option maxRecDepth 4000 in
theorem zGg(m:Nat)(w:World):Calls Tryz.prog 135 #[.int .u32 (m:Int)] w fun e w' => e=.returned (.tuple #[.int .i64 (((zBh m 33).getD 0:Nat):Int),.bool (zBh m 33).isSome])∧w=w' := by
 go_enter Tryz.func135,Tryz.ntmps135;go_wp2;go_loopg [4] 33 (fun g i wr=>∃k:Nat,k+g=33∧i=.int .i64 k∧wr=w∧Hid (zBh m 33=zBh m (33 - k)));case atStart=>exact⟨0,by omega,rfl,rfl,hid rfl⟩
 case round=>
  obtain⟨k,hk,rfl,ew,H⟩:=hrel;subst ew;by_cases hlt:k≤32
  ·have E:=hid (zJp m k hlt)
   cases hm:((maskN (k:Int):Int)==(m:Int))with
   |true=>
    have hf:zBh m 33=some k:=by rw[H.out,E.out,if_pos (by simp at hm;omega)]
    have HF:=hid hf;clear hf;go_wp2_with (first|(go_at_call 122;refine(zIr _ _).mono ?_;rintro e w' ⟨rfl,rfl⟩));go_ret2;exact⟨by rw[HF.out];rfl,rfl⟩
   |false=>
    go_wp2_with (first|(go_at_call 122;refine(zIr _ _).mono ?_;rintro e w' ⟨rfl,rfl⟩));go_roundg (33 - (k+1));case measure=>omega
    case rel=>exact⟨k+1,by omega,by go_num,rfl,hid (by rw[H.out,E.out,if_neg (by simp at hm;omega)])⟩
  ·have hf:zBh m 33=none:=by rw[H.out,show 33 - k=0 from by omega];rfl
   have HF:=hid hf;clear hf;go_wp2_with fail;go_ret2;exact⟨by rw[HF.out];rfl,rfl⟩
theorem mk_step{k:Nat}(h:k<32):maskN (k:Int) ||| 2 ^ (31 - k)=maskN ((k+1:Nat):Int):=by
 have c1:zBc (k:Int)=k:=by unfold zBc;omega
 have c2:zBc ((k+1:Nat):Int)=k+1:=by unfold zBc;omega
 unfold maskN sz;rw[c1,c2];have e1:2 ^ (32 - k)=2*2 ^ (32 - (k+1)):=by rw[←Nat.pow_succ'];congr 1;omega
 have e2:31 - k=32 - (k+1):=by omega
 have e3:4294967296 - 2 ^ (32 - k)=2 ^ (32 - k)*(2 ^ k - 1):=by
  rw[Nat.mul_sub,←Nat.pow_add,Nat.mul_one,show 32 - k+k=32 from by omega]
 have hp:0<2 ^ (32 - (k+1)):=Nat.pow_pos (by omega);have hle:2 ^ (32 - k)≤2 ^ 32:=Nat.pow_le_pow_right (by omega) (by omega);have h32:(2:Nat) ^ 32=4294967296:=rfl;rw[e2,e3,←Nat.two_pow_add_eq_or_of_lt (by omega),←e3];omega
theorem i_mk{k:Nat}(h:k<32):bits .or .u32 (maskN (k:Int):Int) (2 ^ (31 - k) % 4294967296)=(maskN ((k+1:Nat):Int):Int):=by
 have hp:(2:Nat) ^ (31 - k)<4294967296:=by
  have:(2:Nat) ^ (31 - k)≤2 ^ 31:=Nat.pow_le_pow_right (by omega) (by omega);omega
 have e:((2:Int) ^ (31 - k) % 4294967296)=((2 ^ (31 - k):Nat):Int):=by
  rw[show(2:Int) ^ (31 - k)=((2 ^ (31 - k):Nat):Int)from by rw[Int.natCast_pow];rfl];generalize 2 ^ (31 - k)=x at *;exact Int.emod_eq_of_lt (by omega) (by omega)
 rw[e,u32_or_nat _ _ (maskN_lt _) hp,mk_step h]
theorem mask_min{k:Nat}{n:Int}(h:(k:Int)<n):maskN (min (k:Int) n)=maskN (k:Int):=by rw[Int.min_eq_left (by omega)]
theorem mask_min' {k:Nat}{n:Int}(h:¬(k:Int)<n):maskN (min (k:Int) n)=maskN n:=by rw[Int.min_eq_right (by omega)]
theorem mask_min32(n:Int):maskN (min ((32:Nat):Int) n)=maskN n:=by unfold maskN sz zBc;congr 4;omega
set_option maxRecDepth 4000 in
theorem zFc(n:Int)(w:World):Calls Tryz.prog 138 #[.int .i64 n] w fun e w' => e=.returned (.int .u32 (maskN n:Int))∧w=w' := by
 go_enter Tryz.func138,Tryz.ntmps138;go_wp2;go_loopg [3,4] 32 (fun g m i wr=>∃k v:Nat,k+g=32∧i=.int .i64 k∧m=.int .u32 (v:Int)∧wr=w∧Hid (v=maskN (min (k:Int) n)));case atStart=>exact⟨0,0,by omega,rfl,rfl,rfl,hid (by unfold maskN sz zBc;rw[show(max 0 (min (min ((0:Nat):Int) n) 32)).toNat=0 from by omega])⟩
 case round=>
  obtain⟨k,v,hk,rfl,rfl,ew,H⟩:=hrel;subst ew;by_cases hlt:k<32
  ·by_cases hn:(k:Int)<n
   ·have hv:v=maskN (k:Int):=by rw[H.out,mask_min hn]
    subst hv;have E:=i_mk hlt;have HN:Hid (maskN ((k+1:Nat):Int)=maskN (min ((k+1:Nat):Int) n)):=hid (by rw[Int.min_eq_left (by omega)]);go_wp2;go_roundg (32 - (k+1));case measure=>omega
    case rel=>exact⟨k+1,maskN ((k+1:Nat):Int),by omega,by go_num,rfl,rfl,HN⟩
   ·have HN:Hid (v=maskN (min ((k+1:Nat):Int) n)):=hid (by rw[H.out,mask_min' hn,mask_min' (by omega)])
    go_wp2;go_roundg (32 - (k+1));case measure=>omega
    case rel=>exact⟨k+1,v,by omega,by go_num,rfl,rfl,HN⟩
  ·have hk32:k=32:=by omega
   subst hk32;have HV:Hid (v=maskN n):=hid (by rw[H.out,mask_min32]);go_wp2;go_ret;exact⟨zAc (by rw[HV.out]),rfl⟩
set_option maxRecDepth 4000 in
theorem zJz(a:Nat)(n:Int)(w:World)(ha:a<4294967296):Calls Tryz.prog 102 #[.int .u32 (a:Int),.int .i64 n] w fun e w' => e=.returned (PV (a / sz n*sz n) (zBc n))∧Below w.heap.size w w' := by
 have hcl:sz (zBc n:Int)=sz n:=by unfold sz zBc;congr 2;omega
 have hi:=i_and ha (zBc n:Int);rw[hcl]at hi;have hc:=clampN_cast n;have hx:∃c:Nat,zBc n=c:=⟨_,rfl⟩;by_cases h1:32<n
 ·have e:(zBc n:Int)=32:=by omega
  rw[e]at hi⊢;clear hc hcl hx;go_enter Tryz.func102,Tryz.ntmps102;go_wp2_with fail
  all_goals
   refine(zFc _ _).mono ?_;rintro e w' ⟨rfl,rfl⟩;go_wp2_with fail;refine bodyPost_ret (v:=PV (a / sz n*sz n) 32) (by simp[results,Tryz.results102,go_sem,PV]) rfl ⟨rfl,?_⟩;exact(Below.refl _ _).alloc (Nat.le_refl _) _
 by_cases h0:0<n
 ·have e:(zBc n:Int)=n:=by omega
  rw[e]at hi⊢;clear hc hcl hx;go_enter Tryz.func102,Tryz.ntmps102;go_wp2_with fail
  all_goals first|(exfalso;omega)|skip
  all_goals
   refine(zFc _ _).mono ?_;rintro e w' ⟨rfl,rfl⟩;go_wp2_with fail;refine bodyPost_ret (v:=PV (a / sz n*sz n) n) (by simp[results,Tryz.results102,go_sem,PV]) rfl ⟨rfl,?_⟩;exact(Below.refl _ _).alloc (Nat.le_refl _) _
 by_cases hz:n=0
 ·subst hz
  have e:(zBc 0:Int)=0:=by decide
  rw[e]at hi⊢;clear hc hcl hx e;go_enter Tryz.func102,Tryz.ntmps102;go_wp2_with fail
  all_goals
   refine(zFc _ _).mono ?_;rintro e w' ⟨rfl,rfl⟩;go_wp2_with fail;refine bodyPost_ret (v:=PV (a / sz 0*sz 0) 0) (by simp[results,Tryz.results102,go_sem,PV]) rfl ⟨rfl,?_⟩;exact(Below.refl _ _).alloc (Nat.le_refl _) _
 ·have e:(zBc n:Int)=0:=by omega
  rw[e]at hi⊢;clear hc hcl hx;have hneg:n<0:=by omega
  go_enter Tryz.func102,Tryz.ntmps102;go_wp2_with fail
  all_goals first|(exfalso;omega)|skip
  all_goals
   refine(zFc _ _).mono ?_;rintro e w' ⟨rfl,rfl⟩;go_wp2_with fail;refine bodyPost_ret (v:=PV (a / sz n*sz n) 0) (by simp[results,Tryz.results102,go_sem,PV]) rfl ⟨rfl,?_⟩;exact(Below.refl _ _).alloc (Nat.le_refl _) _
set_option maxRecDepth 4000 in
theorem rcontains_any(p:Nat)(n:Int)(a:Nat)(w:World)(ha:a<4294967296):Calls Tryz.prog 155 #[PV p n,.int .u32 (a:Int)] w fun e w' => e=.returned (.bool (contP p n a))∧Below w.heap.size w w' := by
 have hi:=i_and ha n;have E:Hid ((((a / sz n*sz n:Nat):Int)==(p:Int))=contP p n a):=hid (by unfold contP;rw[Bool.eq_iff_iff];simp only[beq_iff_eq,decide_eq_true_eq];omega);unfold PV;go_enter Tryz.func155,Tryz.ntmps155;go_wp2_with fail
 go_quiet ((go_at_call 138;exact quiet_l (zFc _ _)))
 go_wp2;go_ret;exact⟨zAg E.out,zFa _ _ _⟩
set_option maxRecDepth 4000 in
theorem zEi(p:Nat)(n:Int)(w:World)(hp:p<4294967296):Calls Tryz.prog 107 #[PV p n] w fun e w' => e=.returned (.bool (zAv p n))∧Below w.heap.size w w' := by
 have hi:=i_anot hp n;unfold PV;by_cases h0:0≤n
 ·by_cases h1:n≤32
  ·have E:Hid ((((p % sz n:Nat):Int)==0)=zAv p n):=hid (by unfold zAv;simp only[h0,h1,decide_true,Bool.true_and];rw[Bool.eq_iff_iff];simp;omega)
   have d0:decide (0≤n)=true:=by simp[h0]
   have d1:decide (n≤32)=true:=by simp[h1]
   go_enter Tryz.func107,Tryz.ntmps107;go_wp2_with fail
   go_quiet ((go_at_call 138;exact quiet_l (zFc _ _)))
   go_wp2;go_ret;exact⟨zAg E.out,zFa _ _ _⟩
  ·have E:Hid (zAv p n=false):=hid (by unfold zAv;simp[h1])
   have d0:decide (0≤n)=true:=by simp[h0]
   have d1:decide (n≤32)=false:=by simp;omega
   clear hi;go_enter Tryz.func107,Tryz.ntmps107;go_wp2_with fail
   go_quiet (fail)
   go_wp2;go_ret;exact⟨zAg E.out.symm,zFa _ _ _⟩
 ·have E:Hid (zAv p n=false):=hid (by unfold zAv;simp[h0])
  have d0:decide (0≤n)=false:=by simp;omega
  clear hi;go_enter Tryz.func107,Tryz.ntmps107;go_wp2_with fail
  go_quiet (fail)
  go_wp2;go_ret;exact⟨zAg E.out.symm,zFa _ _ _⟩
set_option maxRecDepth 4000 in
theorem rcovers_any(p:Nat)(n:Int)(q:Nat)(m:Int)(w:World)(hq:q<4294967296):Calls Tryz.prog 137 #[PV p n,PV q m] w fun e w' => e=.returned (.bool (covP p n q m))∧Below w.heap.size w w' := by
 unfold PV;by_cases h:n≤m
 ·have d:decide (n≤m)=true:=by simp[h]
  have E:Hid (contP p n q=covP p n q m):=hid (by unfold covP;rw[d];rfl);go_enter Tryz.func137,Tryz.ntmps137;go_wp2_with fail;refine(rcontains_any p n q _ hq).mono ?_;rintro e w1 ⟨rfl,hb1⟩;obtain⟨_,_,_,hb⟩:=zFk hb1;clear hb1;go_wp2;go_ret;exact⟨zAg E.out,hb⟩
 ·have d:decide (n≤m)=false:=by simp;omega
  have E:Hid (covP p n q m=false):=hid (by unfold covP;rw[d];rfl);go_enter Tryz.func137,Tryz.ntmps137;go_wp2;go_ret;exact⟨zAg E.out.symm,((Below.refl _ w).alloc (Nat.le_refl _) _).alloc (by simp) _⟩
set_option maxRecDepth 4000 in
theorem zIg(p:Nat)(n:Int)(q:Nat)(m:Int)(w:World)(hp:p<4294967296)(hq:q<4294967296):Calls Tryz.prog 101 #[PV p n,PV q m] w fun e w' => e=.returned (.bool (overP p n q m))∧Below w.heap.size w w' := by
 unfold PV;have C1:=fun w=>rcovers_any p n q m w hq
 have C2:=fun w=>rcovers_any q m p n w hp
 unfold PV at C1 C2;have H1:=hid C1;have H2:=hid C2;clear C1 C2;cases hc:covP p n q m with
 |true=>
  have E:Hid (overP p n q m=true):=hid (by unfold overP;rw[hc];rfl);go_enter Tryz.func101,Tryz.ntmps101;go_wp2_with fail;refine(H1.out _).mono ?_;rintro e w1 ⟨rfl,hb1⟩;obtain⟨_,_,_,hb⟩:=zFk hb1;clear hb1;go_wp2;go_ret;exact⟨zAg E.out.symm,hb⟩
 |false=>
  have E:Hid (covP q m p n=overP p n q m):=hid (by unfold overP;rw[hc];rfl);go_enter Tryz.func101,Tryz.ntmps101;go_wp2_with fail;refine(H1.out _).mono ?_;rintro e w1 ⟨rfl,hb1⟩;obtain⟨⟨c0,c1⟩,⟨c2,c3⟩,hz,hb⟩:=zFk hb1;clear hb1;go_wp2_with fail;refine(H2.out _).mono ?_;rintro e w2 ⟨rfl,hb2⟩;clear c0 c1 c2 c3;go_wp2;go_ret;exact⟨zAg E.out,hb.trans (hb2.mono (by omega))⟩
set_option maxRecDepth 4000 in
theorem zJq(m:Nat)(w:World):Calls Tryz.prog 113 #[.int .u32 (m:Int)] w fun e w' => e=.returned (.tuple #[.int .i64 (((zBh m 33).getD 0:Nat):Int),.bool (zBh m 33).isSome])∧w=w' := by
 go_enter Tryz.func113,Tryz.ntmps113;go_wp2;go_loopg [4] 33 (fun g i wr=>∃k:Nat,k+g=33∧i=.int .i64 k∧wr=w∧Hid (zBh m 33=zBh m (33 - k)));case atStart=>exact⟨0,by omega,rfl,rfl,hid rfl⟩
 case round=>
  obtain⟨k,hk,rfl,ew,H⟩:=hrel;subst ew;by_cases hlt:k≤32
  ·have E:=hid (zJp m k hlt)
   cases hm:((maskN (k:Int):Int)==(m:Int))with
   |true=>
    have hf:zBh m 33=some k:=by rw[H.out,E.out,if_pos (by simp at hm;omega)]
    have HF:=hid hf;clear hf;go_wp2_with (first|(go_at_call 138;refine(zFc _ _).mono ?_;rintro e w' ⟨rfl,rfl⟩));go_ret2;exact⟨by rw[HF.out];rfl,rfl⟩
   |false=>
    go_wp2_with (first|(go_at_call 138;refine(zFc _ _).mono ?_;rintro e w' ⟨rfl,rfl⟩));go_roundg (33 - (k+1));case measure=>omega
    case rel=>exact⟨k+1,by omega,by go_num,rfl,hid (by rw[H.out,E.out,if_neg (by simp at hm;omega)])⟩
  ·have hf:zBh m 33=none:=by rw[H.out,show 33 - k=0 from by omega];rfl
   have HF:=hid hf;clear hf;go_wp2_with fail;go_ret2;exact⟨by rw[HF.out];rfl,rfl⟩
theorem Tryz.pfxGuard:Tryz.prog.eqGuardType Tryz.prog.depth 90=false:=by kernel_rfl
theorem Tryz.pfxStood:Tryz.prog.stoodInHeld 90=false:=by kernel_rfl
theorem zFo(p q:Nat)(n m:Int)(w:World):(binOp .eql 90 (.agg #[.int .u32 (p:Int),.int .i64 n]) (.agg #[.int .u32 (q:Int),.int .i64 m])).run Tryz.prog w=.ok (.bool (decide (p=q∧n=m))) w:=by
 have hp:=Tryz.pfxStood;by_cases h1:p=q
 ·subst h1
  by_cases h2:n=m
  ·subst h2
   simp[go_sem,hp]
  ·have h3:(n==m)=false:=by simp[h2]
   simp[go_sem,hp,h2,h3]
 ·have h2:((p:Int)==(q:Int))=false:=by simp;omega
  simp[go_sem,hp,h1,h2]
end Go.Proofs.YthcnojmldldpeaaGreatDoor
