/- Plain facts on addresses, masks and prefixes: numbers below 2^32 and powers of two. No condition. -/
import Derived.Test.YthcnojmldldpeaaGreatDoorGd
namespace Go.Proofs.YthcnojmldldpeaaGreatDoor
open Lib (hid)
open Go.RowKit
def zBc(n:Int):Nat:=(max 0 (min n 32)).toNat
theorem clampN_le(n:Int):zBc n≤32:=by unfold zBc;omega
theorem clampN_cast(n:Int):(zBc n:Int)=max 0 (min n 32):=by unfold zBc;omega
def sz(n:Int):Nat:=2 ^ (32 - zBc n)
theorem sz_pos(n:Int):0<sz n:=Nat.pow_pos (by omega)
theorem sz_le(n:Int):sz n≤4294967296:=by
 have:sz n≤2 ^ 32:=Nat.pow_le_pow_right (by omega) (by omega);simpa using this
def maskN(n:Int):Nat:=4294967296 - sz n
theorem maskN_lt(n:Int):maskN n<4294967296:=by have:=sz_pos n;unfold maskN;omega
theorem and_high{a k:Nat}(ha:a<2 ^ 32)(hk:k≤32):a &&& (4294967296 - 2 ^ k)=a / 2 ^ k*2 ^ k:=by
 have e:4294967296 - 2 ^ k=2 ^ k*(2 ^ (32 - k) - 1):=by
  rw[Nat.mul_sub,←Nat.pow_add,Nat.mul_one,show k+(32 - k)=32 from by omega]
 apply Nat.eq_of_testBit_eq;intro i;rw[Nat.testBit_and,e,Nat.testBit_two_pow_mul,Nat.mul_comm (a / 2 ^ k),Nat.testBit_two_pow_mul,Nat.testBit_two_pow_sub_one,Nat.testBit_div_two_pow];by_cases hi:k≤i
 ·simp only[hi,decide_true,Bool.true_and]
  rw[show i - k+k=i from by omega];by_cases h32:i<32
  ·have:i - k<32 - k:=by omega
   simp[this]
  ·have hf:a.testBit i=false:=Nat.testBit_lt_two_pow (Nat.lt_of_lt_of_le ha (Nat.pow_le_pow_right (by omega) (by omega)))
   simp[hf]
 ·simp[hi]
theorem and_mask{a:Nat}(ha:a<4294967296)(n:Int):a &&& maskN n=a / sz n*sz n:=by
 unfold maskN sz;exact and_high (by simpa using ha) (by omega)
theorem anot_mask{a:Nat}(n:Int):a &&& (4294967295 - maskN n)=a % sz n:=by
 have h:=sz_le n;have h0:=sz_pos n
 have e:4294967295 - maskN n=2 ^ (32 - zBc n) - 1:=by
  have:maskN n=4294967296 - sz n:=rfl;have e2:sz n=2 ^ (32 - zBc n):=rfl;omega
 rw[e,Nat.and_two_pow_sub_one_eq_mod];rfl
theorem i_and{a:Nat}(ha:a<4294967296)(n:Int):bits .and .u32 (a:Int) (maskN n:Int)=((a / sz n*sz n:Nat):Int):=by
 rw[u32_and_nat a (maskN n) ha (maskN_lt n),and_mask ha]
theorem i_anot{a:Nat}(ha:a<4294967296)(n:Int):bits .andNot .u32 (a:Int) (maskN n:Int)=((a % sz n:Nat):Int):=by
 rw[u32_andNot_nat a (maskN n) ha (maskN_lt n),anot_mask]
theorem mask_shift(k:Int)(h0:0≤k)(h1:k≤32):(4294967295:Int)*2 ^ (32 - k).toNat % 4294967296=(maskN k:Int):=by
 have hc:zBc k=k.toNat:=by unfold zBc;omega
 have e1:(32 - k).toNat=32 - zBc k:=by omega
 have hp:=sz_pos k;have hl:=sz_le k;have e2:((2:Int) ^ (32 - k).toNat)=(sz k:Int):=by rw[e1];unfold sz;simp
 rw[e2];unfold maskN;have:(4294967295:Int)*(sz k:Int)=((4294967296 - sz k:Nat):Int)+4294967296*((sz k:Int) - 1):=by omega
 rw[this,Int.add_mul_emod_self_left];exact Int.emod_eq_of_lt (by omega) (by omega)
theorem mask_shift' (n:Int):(4294967295:Int)*2 ^ (32 - zBc n) % 4294967296=(maskN n:Int):=by
 have h1:=clampN_le n;have hm:maskN ((zBc n:Nat):Int)=maskN n:=by unfold maskN sz zBc;congr 3;omega
 have:=mask_shift (zBc n:Int) (by omega) (by omega);rw[hm,show(32 - (zBc n:Int)).toNat=32 - zBc n from by omega]at this;exact this
theorem xor_all{m:Nat}(h:m<2 ^ 32):4294967295 ^^^ m=4294967295 - m:=by
 have e:4294967295 - m=2 ^ 32 - (m+1):=by omega
 apply Nat.eq_of_testBit_eq;intro i;rw[e,Nat.testBit_two_pow_sub_succ h,Nat.testBit_xor,show(4294967295:Nat)=2 ^ 32 - 1 from rfl,Nat.testBit_two_pow_sub_one];by_cases hi:i<32
 ·simp[hi]
 ·have hf:m.testBit i=false:=Nat.testBit_lt_two_pow (Nat.lt_of_lt_of_le h (Nat.pow_le_pow_right (by omega) (by omega)))
  simp[hi,hf]
def zAv(p:Nat)(n:Int):Bool:=decide (0≤n)&&decide (n≤32)&&decide (p % sz n=0)
def contP(p:Nat)(n:Int)(a:Nat):Bool:=decide (a / sz n*sz n=p)
def covP(p:Nat)(n:Int)(q:Nat)(m:Int):Bool:=decide (n≤m)&&contP p n q
def overP(p:Nat)(n:Int)(q:Nat)(m:Int):Bool:=covP p n q m||covP q m p n
def PV(p:Nat)(n:Int):Value:=.agg #[.int .u32 (p:Int),.int .i64 n]
end Go.Proofs.YthcnojmldldpeaaGreatDoor
