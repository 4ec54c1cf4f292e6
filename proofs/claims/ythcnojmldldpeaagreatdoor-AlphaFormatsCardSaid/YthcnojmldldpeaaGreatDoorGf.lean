/- The decimal form of a number: the reference's Decimal computes it, and Number reads it back. Condition: the number is not negative (and an int). -/
import Derived.Test.YthcnojmldldpeaaGreatDoorGd
set_option maxHeartbeats 1000000
namespace Go.Proofs.YthcnojmldldpeaaGreatDoor
open Lib (hid)
open Go.RowKit
theorem zGf(c:Int)(w:World):Calls Tryz.prog 142 #[.int .u8 c] w fun e w' => e=.returned (.bool (zGt c))∧w=w' := by
 go_enter Tryz.func142,Tryz.ntmps142;go_wp2
 all_goals (go_ret;refine⟨?_,rfl⟩;simp_all[zGt])
theorem zGx(c:Int)(w:World):Calls Tryz.prog 77 #[.int .u8 c] w fun e w' => e=.returned (.bool (zFv c))∧w=w' := by
 go_enter Tryz.func77,Tryz.ntmps77;go_wp2
 all_goals (go_ret;refine⟨?_,rfl⟩;(try simp_all[zFv])<;>omega)
theorem zIz(c:Int)(w:World):Calls Tryz.prog 76 #[.int .u8 c] w fun e w' => e=.returned (.bool (zGh c))∧w=w' := by
 go_enter Tryz.func76,Tryz.ntmps76;go_wp2
 all_goals (go_ret;refine⟨zAg ?_,rfl⟩;rw[Bool.eq_iff_iff];(try simp[zGh])<;>omega)
theorem zHs(c:Int)(w:World):Calls Tryz.prog 100 #[.int .u8 c] w fun e w' => e=.returned (.bool (zGh c))∧w=w' := by
 go_enter Tryz.func100,Tryz.ntmps100;go_wp2
 all_goals (go_ret;refine⟨zAg ?_,rfl⟩;rw[Bool.eq_iff_iff];(try simp[zGh])<;>omega)
theorem name_short{s:ByteArray}(h:s.size<1):nameB (bytes s)=false:=by
 rw[List.eq_nil_of_length_eq_zero (by rw[zCl];omega:(bytes s).length=0)];rfl
theorem name_long{s:ByteArray}(h:15<s.size):nameB (bytes s)=false:=by
 have hl:=zCl s;rw[←List.drop_zero (l:=bytes s),zCf s 0 (by omega)];simp only[nameB,List.length_drop];rw[decide_eq_false (by omega)];rfl
theorem name_fits{s:ByteArray}(h1:0<s.size)(h2:¬15<s.size):nameB (bytes s)=(zGh s[0].toNat&&zHf ((bytes s).drop 1)):=by
 have hl:=zCl s
 conv=>lhs;rw[←List.drop_zero (l:=bytes s),zCf s 0 (by omega)]
 simp only[nameB,List.length_drop];rw[decide_eq_true (by omega)];simp
theorem zIq(s:ByteArray)(k:Nat)(h:k<s.size):zHf ((bytes s).drop k)=(nameC s[k].toNat&&zHf ((bytes s).drop (k+1))):=by
 rw[zCf s k h];rfl
set_option maxRecDepth 4000 in
theorem name_any(s:ByteArray)(w:World):Calls Tryz.prog 26 #[.string s] w fun e w' => e=.returned (.bool (nameB (bytes s)))∧w=w' := by
 by_cases h1:s.size<1
 ·have Hf:=hid (name_short h1)
  go_enter Tryz.func26,Tryz.ntmps26;go_wp2;go_ret;exact⟨zAg Hf.out.symm,rfl⟩
 by_cases h2:15<s.size
 ·have Hf:=hid (name_long h2)
  go_enter Tryz.func26,Tryz.ntmps26;go_wp2;go_ret;exact⟨zAg Hf.out.symm,rfl⟩
 have Hs:=hid (name_fits (by omega) h2);have d1:decide ((s.size:Int)<1)=false:=by simp;omega
 have d2:decide ((15:Int)<s.size)=false:=by simp;omega
 cases hc:zGh s[0].toNat with
 |false=>
  go_enter Tryz.func26,Tryz.ntmps26;go_wp2_with (first|(go_at_call 76;refine(zIz _ _).mono ?_;rintro e w' ⟨rfl,rfl⟩));go_ret;exact⟨zAg (by rw[Hs.out,hc];rfl),rfl⟩
 |true=>
  go_enter Tryz.func26,Tryz.ntmps26;go_wp2_with (first|(go_at_call 76;refine(zIz _ _).mono ?_;rintro e w' ⟨rfl,rfl⟩));go_loop [2,3,4] (fun _ i _=>∃k:Nat,1≤k∧k≤s.size∧i=.int .i64 k∧Hid (nameB (bytes s)=zHf ((bytes s).drop k))) (fun _ i _=>s.size - (intOf i).toNat);case atStart=>exact⟨1,by omega,by omega,rfl,by rw[Hs.out,hc];rfl⟩
  case round=>
   obtain⟨k,hk1,hk,rfl,H⟩:=hrel;by_cases hlt:k<s.size
   ·have E:=hid (zIq s k hlt)
    go_wp2_with (first|(go_at_call 76;refine(zIz _ _).mono ?_;rintro e w' ⟨rfl,rfl⟩)|(go_at_call 77;refine(zGx _ _).mono ?_;rintro e w' ⟨rfl,rfl⟩))
    all_goals first
     | (go_round
        case rel=>exact⟨k+1,by omega,by omega,by go_num,by rw[H.out,E.out,show nameC s[k].toNat=true from by(simp_all[nameC,bne])];rfl⟩
        case measure=>simp[intOf];omega)
     |(go_ret;exact⟨zAg (by rw[H.out,E.out,show nameC s[k].toNat=false from by(simp_all[nameC,bne])];rfl),rfl⟩)
   ·go_wp2_with fail
    go_ret;exact⟨zAg (by rw[H.out,zFs s k hlt];rfl),rfl⟩
set_option maxRecDepth 4000 in
theorem rname_any(s:ByteArray)(w:World):Calls Tryz.prog 52 #[.string s] w fun e w' => e=.returned (.bool (nameB (bytes s)))∧w=w' := by
 by_cases h1:s.size<1
 ·have Hf:=hid (name_short h1)
  go_enter Tryz.func52,Tryz.ntmps52;go_wp2;go_ret;exact⟨zAg Hf.out.symm,rfl⟩
 by_cases h2:15<s.size
 ·have Hf:=hid (name_long h2)
  go_enter Tryz.func52,Tryz.ntmps52;go_wp2;go_ret;exact⟨zAg Hf.out.symm,rfl⟩
 have Hs:=hid (name_fits (by omega) h2);have d1:decide ((s.size:Int)<1)=false:=by simp;omega
 have d2:decide ((15:Int)<s.size)=false:=by simp;omega
 cases hc:zGh s[0].toNat with
 |false=>
  go_enter Tryz.func52,Tryz.ntmps52;go_wp2_with (first|(go_at_call 100;refine(zHs _ _).mono ?_;rintro e w' ⟨rfl,rfl⟩));go_ret;exact⟨zAg (by rw[Hs.out,hc];rfl),rfl⟩
 |true=>
  go_enter Tryz.func52,Tryz.ntmps52;go_wp2_with (first|(go_at_call 100;refine(zHs _ _).mono ?_;rintro e w' ⟨rfl,rfl⟩));go_loop [2,3,4] (fun _ i _=>∃k:Nat,1≤k∧k≤s.size∧i=.int .i64 k∧Hid (nameB (bytes s)=zHf ((bytes s).drop k))) (fun _ i _=>s.size - (intOf i).toNat);case atStart=>exact⟨1,by omega,by omega,rfl,by rw[Hs.out,hc];rfl⟩
  case round=>
   obtain⟨k,hk1,hk,rfl,H⟩:=hrel;by_cases hlt:k<s.size
   ·have E:=hid (zIq s k hlt)
    go_wp2_with (first|(go_at_call 100;refine(zHs _ _).mono ?_;rintro e w' ⟨rfl,rfl⟩))
    all_goals first
     | (go_round
        case rel=>exact⟨k+1,by omega,by omega,by go_num,by rw[H.out,E.out,show nameC s[k].toNat=true from by(simp_all[nameC,zFv,bne])];rfl⟩
        case measure=>simp[intOf];omega)
     |(go_ret;exact⟨zAg (by rw[H.out,E.out,show nameC s[k].toNat=false from by((try simp_all[nameC,zFv,bne])<;>omega)];rfl),rfl⟩)
   ·go_wp2_with fail
    go_ret;exact⟨zAg (by rw[H.out,zFs s k hlt];rfl),rfl⟩
theorem zIu{l:List UInt8}(h:numOf l=none)(least most:Int):numIn l least most=none:=by simp[numIn,h]
theorem num_short{s:ByteArray}(h:s.size<1):numOf (bytes s)=none:=by
 rw[List.eq_nil_of_length_eq_zero (by rw[zCl];omega:(bytes s).length=0)];rfl
theorem bytes_two{s:ByteArray}(h:1<s.size):bytes s=s[0] :: s[1] :: (bytes s).drop 2:=by
 conv=>lhs;rw[←List.drop_zero (l:=bytes s),zCf s 0 (by omega),zCf s 1 (by omega)]
theorem num_long{s:ByteArray}(h:10<s.size):numOf (bytes s)=none:=by
 have hl:=zCl s;rw[bytes_two (by omega)]at hl⊢;simp only[numOf,zJh,hl];rw[decide_eq_false (by omega)];rfl
theorem num_zero{s:ByteArray}(h:1<s.size)(h0:((s[0].toNat:Int)==48)=true):numOf (bytes s)=none:=by
 rw[bytes_two h];simp[numOf,zJh,h0]
theorem num_fits{s:ByteArray}(h1:0<s.size)(h2:¬10<s.size)(h3:¬(1<s.size∧((s[0].toNat:Int)==48)=true)):numOf (bytes s)=numGo 0 ((bytes s).drop 0):=by
 rw[List.drop_zero];by_cases h:1<s.size
 ·have hl:=zCl s
  have h4:((s[0].toNat:Int)==48)=false:=by
   cases h' : ((s[0].toNat:Int)==48)
   ·rfl
   ·exact absurd ⟨h,h'⟩ h3
  have e:zJh (bytes s)=true:=by
   rw[bytes_two h]at hl⊢;simp only[zJh,hl,h4];rw[decide_eq_true (by omega)];rfl
  simp[numOf,e]
 ·have hs:bytes s=[s[0]]:=by
   conv=>lhs;rw[←List.drop_zero (l:=bytes s),zCf s 0 (by omega),zFs s 1 (by omega)]
  have e:zJh (bytes s)=true:=by rw[hs];rfl
  simp[numOf,e]
theorem num_bd{n:Int}{k:Nat}(hk:k≤9)(h:n<10 ^ k):n≤999999999:=by
 have:(10:Int) ^ k≤10 ^ 9:=by
  have h1:(10:Nat) ^ k≤10 ^ 9:=Nat.pow_le_pow_right (by omega) hk
  exact_mod_cast h1
 have e:(10:Int) ^ 9=1000000000:=by decide
 omega
theorem pow_step{n d:Int}{k:Nat}(h:n<10 ^ k)(hd:d≤9):n*10+d<10 ^ (k+1):=by
 rw[Int.pow_succ];omega
theorem numGo_stop(s:ByteArray)(k:Nat)(n:Int)(h:k<s.size)(hd:zFv s[k].toNat=false):numGo n ((bytes s).drop k)=none:=by
 rw[zCf s k h,numGo,hd];rfl
theorem numGo_go(s:ByteArray)(k:Nat)(n:Int)(h:k<s.size)(hd:zFv s[k].toNat=true) :
  numGo n ((bytes s).drop k)=numGo (n*10+(s[k].toNat - 48)) ((bytes s).drop (k+1))∧48≤(s[k].toNat:Int)∧(s[k].toNat:Int)≤57:=by
 refine⟨by rw[zCf s k h,numGo,hd];rfl,?_⟩;simp only[zFv,Bool.and_eq_true,decide_eq_true_eq]at hd;exact hd
theorem numGo_end(s:ByteArray)(k:Nat)(n:Int)(h:¬k<s.size)(e:numOf (bytes s)=numGo n ((bytes s).drop k)):numOf (bytes s)=some n:=by
 rw[e,zFs s k h];rfl
theorem num_out{l:List UInt8}{n least most:Int}(e:numOf l=some n)(h:n<least∨most<n):numIn l least most=none:=by
 simp only[numIn,e];rw[if_neg (by omega)]
theorem num_in{l:List UInt8}{n least most:Int}(e:numOf l=some n)(h1:least≤n)(h2:n≤most):numIn l least most=some n:=by
 simp only[numIn,e];rw[if_pos ⟨h1,h2⟩]
set_option maxRecDepth 4000 in
theorem zJk(s:ByteArray)(least most:Int)(w:World):Calls Tryz.prog 212 #[.string s,.int .i64 least,.int .i64 most] w fun e w' =>
  e=.returned (.tuple #[.int .i64 (numV (numIn (bytes s) least most)),.bool (numIn (bytes s) least most).isSome])∧w=w' := by
 by_cases h1:s.size<1
 ·have Hf:=hid (zIu (num_short h1) least most)
  go_enter Tryz.func212,Tryz.ntmps212;go_wp2;go_ret2;exact⟨by rw[Hf.out];rfl,rfl⟩
 by_cases h2:10<s.size
 ·have Hf:=hid (zIu (num_long h2) least most)
  go_enter Tryz.func212,Tryz.ntmps212;go_wp2;go_ret2;exact⟨by rw[Hf.out];rfl,rfl⟩
 have d1:decide ((s.size:Int)<1)=false:=by simp;omega
 have d2:decide ((10:Int)<s.size)=false:=by simp;omega
 by_cases h3:1<s.size∧((s[0].toNat:Int)==48)=true
 ·obtain⟨h3,h4⟩:=h3
  have Hf:=hid (zIu (num_zero h3 h4) least most);go_enter Tryz.func212,Tryz.ntmps212;go_wp2;go_ret2;exact⟨by rw[Hf.out];rfl,rfl⟩
 have Hs:=hid (num_fits (by omega) h2 h3);by_cases h5:1<s.size
 ·have d5:decide ((1:Int)<s.size)=true:=by simp;omega
  have h6:((s[0].toNat:Int)==48)=false:=by
   cases h:((s[0].toNat:Int)==48)
   ·rfl
   ·exact absurd ⟨h5,h⟩ h3
  clear h3;go_enter Tryz.func212,Tryz.ntmps212;go_wp2_with fail;go_loop [6,7,8,9] (fun _ _ v i=>∃(k:Nat) (n:Int),k≤s.size∧0≤n∧i=.int .i64 k∧v=.int .i64 n∧Hid (n<10 ^ k)∧Hid (numOf (bytes s)=numGo n ((bytes s).drop k))) (fun _ _ _ i=>s.size - (intOf i).toNat);case atStart=>exact⟨0,0,by omega,by omega,rfl,rfl,hid (by decide),Hs⟩
  case round=>
   obtain⟨k,n,hk,hn,rfl,rfl,HB,H⟩:=hrel;by_cases hlt:k<s.size
   ·have hn2:n≤999999999:=num_bd (by omega) HB.out
    cases hd:zFv s[k].toNat with
    |false=>
     have E:=hid (numGo_stop s k n hlt hd)
     skip
     all_goals go_wp2_with (first|(go_at_call 77;refine(zGx _ _).mono ?_;rintro e w' ⟨rfl,rfl⟩))
     all_goals (go_ret2;exact⟨by rw[zIu (H.out.trans E.out)];rfl,rfl⟩)
    |true=>
     obtain⟨E0,hd1,hd2⟩:=numGo_go s k n hlt hd;have E:=hid E0;clear E0
     skip
     go_wp2_with (first|(go_at_call 77;refine(zGx _ _).mono ?_;rintro e w' ⟨rfl,rfl⟩))
     go_round
     case rel=>exact⟨k+1,n*10+(s[k].toNat - 48),by omega,by omega,by go_num,by go_num,hid (pow_step HB.out (by omega)),hid (H.out.trans E.out)⟩
     case measure=>simp[intOf];omega
   ·have E:=hid (numGo_end s k n hlt H.out)
    clear H HB;by_cases hl:n<least
    ·have Hf:=hid (num_out (most:=most) E.out (Or.inl hl))
     go_wp2_with fail;go_ret2;exact⟨by rw[Hf.out];rfl,rfl⟩
    by_cases hm:most<n
    ·have Hf:=hid (num_out (least:=least) E.out (Or.inr hm))
     go_wp2_with fail;go_ret2;exact⟨by rw[Hf.out];rfl,rfl⟩
    have Hf:=hid (num_in E.out (Int.not_lt.1 hl) (Int.not_lt.1 hm));go_wp2_with fail;go_ret2;exact⟨by rw[Hf.out];rfl,rfl⟩
 ·have d5:decide ((1:Int)<s.size)=false:=by simp;omega
  clear h3;go_enter Tryz.func212,Tryz.ntmps212;go_wp2_with fail;go_loop [6,7,8,9] (fun _ _ v i=>∃(k:Nat) (n:Int),k≤s.size∧0≤n∧i=.int .i64 k∧v=.int .i64 n∧Hid (n<10 ^ k)∧Hid (numOf (bytes s)=numGo n ((bytes s).drop k))) (fun _ _ _ i=>s.size - (intOf i).toNat);case atStart=>exact⟨0,0,by omega,by omega,rfl,rfl,hid (by decide),Hs⟩
  case round=>
   obtain⟨k,n,hk,hn,rfl,rfl,HB,H⟩:=hrel;by_cases hlt:k<s.size
   ·have hn2:n≤999999999:=num_bd (by omega) HB.out
    cases hd:zFv s[k].toNat with
    |false=>
     have E:=hid (numGo_stop s k n hlt hd)
     skip
     all_goals go_wp2_with (first|(go_at_call 77;refine(zGx _ _).mono ?_;rintro e w' ⟨rfl,rfl⟩))
     all_goals (go_ret2;exact⟨by rw[zIu (H.out.trans E.out)];rfl,rfl⟩)
    |true=>
     obtain⟨E0,hd1,hd2⟩:=numGo_go s k n hlt hd;have E:=hid E0;clear E0
     skip
     go_wp2_with (first|(go_at_call 77;refine(zGx _ _).mono ?_;rintro e w' ⟨rfl,rfl⟩))
     go_round
     case rel=>exact⟨k+1,n*10+(s[k].toNat - 48),by omega,by omega,by go_num,by go_num,hid (pow_step HB.out (by omega)),hid (H.out.trans E.out)⟩
     case measure=>simp[intOf];omega
   ·have E:=hid (numGo_end s k n hlt H.out)
    clear H HB;by_cases hl:n<least
    ·have Hf:=hid (num_out (most:=most) E.out (Or.inl hl))
     go_wp2_with fail;go_ret2;exact⟨by rw[Hf.out];rfl,rfl⟩
    by_cases hm:most<n
    ·have Hf:=hid (num_out (least:=least) E.out (Or.inr hm))
     go_wp2_with fail;go_ret2;exact⟨by rw[Hf.out];rfl,rfl⟩
    have Hf:=hid (num_in E.out (Int.not_lt.1 hl) (Int.not_lt.1 hm));go_wp2_with fail;go_ret2;exact⟨by rw[Hf.out];rfl,rfl⟩
theorem Tryz.strInfo:(Tryz.prog.info? 9).map (fun i=>(i.zero,i.size,i.bytes))=some (some (.string ByteArray.empty),1,16):=by kernel_rfl
def zHh(l:List UInt8):List (List UInt8):=if zBs l=0 then zFz l else []
def zGe(l:List UInt8)(w:World)(e:Ending)(w' : World):Prop :=
 ∃v,e=.returned (.tuple #[v,.int .i64 (zBs l)])∧w'.ownsRow w.heap.size 9 1 v (zHh l).length ((zHh l).map strV)∧Below w.heap.size w w'
theorem lines_of_limit{s:ByteArray}(h:65536<s.size):zBs (bytes s)=7:=by
 unfold zBs;rw[zCl,if_pos h]
theorem lines_of_bad{s:ByteArray}(h:¬65536<s.size)(hv:zEe (bytes s)=false):zBs (bytes s)=2:=by
 unfold zBs;rw[zCl,if_neg h,hv];rfl
theorem lines_of_ok{s:ByteArray}(h:¬65536<s.size)(hv:zEe (bytes s)=true):zBs (bytes s)=0:=by
 unfold zBs;rw[zCl,if_neg h,hv];rfl
theorem zIp{l:List UInt8}{n:Int}(h:zBs l=n)(hn:n≠0){w w' : World}(hb:Below w.heap.size w w'):zGe l w (.returned (.tuple #[.slice none 0 0,.int .i64 n])) w' := by
 refine⟨.slice none 0 0,by rw[h],?_,hb⟩;unfold zHh;rw[if_neg (by rw[h];exact hn)];exact World.ownsRow_nil _ _ _ _
theorem zJn{l:List UInt8}(h:zBs l=0){w w' : World}{v:Value}{n:Nat}{xs:List (List UInt8)}(e:zFz l=xs)(hn:n=xs.length)(ho:w'.ownsRow w.heap.size 9 1 v n (xs.map strV))(hb:Below w.heap.size w w'):zGe l w (.returned (.tuple #[v,.int .i64 0])) w' := by
 refine⟨v,by rw[h],?_,hb⟩;unfold zHh;rw[if_pos h,e,←hn];exact ho
theorem valid_step(s:ByteArray)(k:Nat)(h:k<s.size):zEe ((bytes s).drop k)=(zJx s[k].toNat&&zEe ((bytes s).drop (k+1))):=by
 rw[zCf s k h];rfl
theorem valid_no{c:Int}(h:zJx c=false):(c != 9)=true∧(c != 10)=true∧(c<32∨126<c):=by
 simp only[zJx,Bool.or_eq_false_iff,Bool.and_eq_false_iff,decide_eq_false_iff_not]at h;refine⟨by simp[bne,h.1.1],by simp[bne,h.1.2],?_⟩;omega
theorem valid_yes{c:Int}(h:zJx c=true):(c != 9)=false∨((c != 9)=true∧(c != 10)=false)∨((c != 9)=true∧(c != 10)=true∧32≤c∧c≤126):=by
 simp only[zJx,Bool.or_eq_true,Bool.and_eq_true,decide_eq_true_eq]at h;by_cases h9:c=9
 ·exact .inl (by simp[h9])
 by_cases h10:c=10
 ·exact .inr (.inl ⟨by simp[h9],by simp[h10]⟩)
 ·refine .inr (.inr ⟨by simp[h9],by simp[h10],?_⟩)
  simp[h9,h10]at h;exact h
theorem linesGo_feed(s:ByteArray)(a k:Nat)(h:k<s.size)(hc:((s[k].toNat:Int)==10)=true) :
  zDo (sub (bytes s) a k) ((bytes s).drop k)=sub (bytes s) a k :: zDo (sub (bytes s) (k+1) (k+1)) ((bytes s).drop (k+1)):=by
 rw[zCf s k h,zDo,if_pos (by simpa using hc),sub_self]
theorem linesGo_else(s:ByteArray)(a k:Nat)(ha:a≤k)(h:k<s.size)(hc:((s[k].toNat:Int)==10)=false) :
  zDo (sub (bytes s) a k) ((bytes s).drop k)=zDo (sub (bytes s) a (k+1)) ((bytes s).drop (k+1)):=by
 rw[zCf s k h,zDo,if_neg (by simpa using hc),sub_snoc s a k ha h]
theorem linesGo_end(s:ByteArray)(a k:Nat)(h:k=s.size)(ha:a≤k):zDo (sub (bytes s) a k) ((bytes s).drop k)=if a<s.size then [sub (bytes s) a s.size]else []:=by
 subst h;rw[zFs s s.size (by omega),zDo,flush];have hl:=sub_len (bytes s) a s.size (by rw[zCl];omega);by_cases h:a<s.size
 ·rw[if_neg (by intro e;rw[e]at hl;simp at hl;omega),if_pos h]
 ·rw[if_pos (List.eq_nil_of_length_eq_zero (by omega)),if_neg h]
theorem app1{α:Type}{a b c:List α}{x:α}(h:a=b++x :: c):a=(b++[x])++c:=by simp[h]
theorem one_str(s:ByteArray):∀u∈(#[Value.string s]:Array Value).toList,u.oneCell' = true:=by
 intro u hu;simp at hu;subst hu;rfl
theorem zKk(xs:List (List UInt8))(x:List UInt8):xs.map strV++#[strV x].toList=(xs++[x]).map strV:=by simp
set_option maxRecDepth 4000 in
theorem lines_limit(s:ByteArray)(w:World)(h:65536<s.size):Calls Tryz.prog 115 #[.string s] w (zGe (bytes s) w):=by
 have Hf:=hid (lines_of_limit h);go_enter Tryz.func115,Tryz.ntmps115;go_wp2;go_ret2;exact zIp Hf.out (by omega) (Below.refl _ _)
set_option maxRecDepth 4000 in
theorem lines_bad(s:ByteArray)(w:World)(h:¬65536<s.size)(hv:zEe (bytes s)=false):Calls Tryz.prog 115 #[.string s] w (zGe (bytes s) w):=by
 have Hf:=hid (lines_of_bad h hv);have Hv:Hid (zEe ((bytes s).drop 0)=false):=hid (by simpa using hv);clear hv;have d1:decide ((65536:Int)<s.size)=false:=by simp;omega
 go_enter Tryz.func115,Tryz.ntmps115;go_wp2;go_loop [2,3,4,5] (fun _ _ i _=>∃k:Nat,k≤s.size∧i=.int .i64 k∧Hid (zEe ((bytes s).drop k)=false)) (fun _ _ i _=>s.size - (intOf i).toNat);case atStart=>exact⟨0,by omega,rfl,Hv⟩
 case round=>
  obtain⟨k,hk,rfl,H⟩:=hrel;by_cases hlt:k<s.size
  ·have E:=hid (valid_step s k hlt)
   cases hc:zJx s[k].toNat with
   |true=>
    rcases valid_yes hc with h1|⟨h1,h2⟩|⟨h1,h2,h3,h4⟩
    all_goals
     go_wp2
     go_round
     case rel=>exact⟨k+1,by omega,by go_num,hid (by have:=H.out;rw[E.out,hc]at this;exact this)⟩
     case measure=>simp[intOf];omega
   |false=>
    obtain⟨h1,h2,h3⟩:=valid_no hc;rcases h3 with h3|h3
    all_goals
     go_wp2;go_ret2;exact zIp Hf.out (by omega) (Below.refl _ _)
  ·have:=H.out
   rw[zFs s k hlt]at this;cases this
set_option maxRecDepth 4000 in
theorem lines_ok(s:ByteArray)(w:World)(h:¬65536<s.size)(hv:zEe (bytes s)=true):Calls Tryz.prog 115 #[.string s] w (zGe (bytes s) w):=by
 obtain⟨i0,hi0,hz0,hz1,hz2⟩:=info_parts Tryz.strInfo;have Hi0:=hid hi0;have Hz0:=hid hz0;have Hz1:=hid hz1;have Hz2:=hid hz2;clear hi0 hz0 hz1 hz2;have Hf:=hid (lines_of_ok h hv);have Hv:Hid (zEe ((bytes s).drop 0)=true):=hid (by simpa using hv);clear hv;have d1:decide ((65536:Int)<s.size)=false:=by simp;omega
 go_enter Tryz.func115,Tryz.ntmps115;go_wp2;go_loop [2,3,4,5] (fun a b i _=>∃k:Nat,k≤s.size∧i=.int .i64 k∧a=.slice none 0 0∧b=.int .i64 0∧Hid (zEe ((bytes s).drop k)=true)) (fun _ _ i _=>s.size - (intOf i).toNat);case atStart=>exact⟨0,by omega,rfl,rfl,rfl,Hv⟩
 case round=>
  obtain⟨k,hk,rfl,rfl,rfl,H⟩:=hrel;by_cases hlt:k<s.size
  ·have E:=hid (valid_step s k hlt)
   cases hc:zJx s[k].toNat with
   |true=>
    rcases valid_yes hc with h1|⟨h1,h2⟩|⟨h1,h2,h3,h4⟩
    all_goals
     go_wp2
     go_round
     case rel=>exact⟨k+1,by omega,by go_num,rfl,rfl,hid (by have:=H.out;rw[E.out,hc]at this;exact this)⟩
     case measure=>simp[intOf];omega
   |false=>
    have:=H.out;rw[E.out,hc]at this;cases this
  ·clear H Hv
   have hk2:k=s.size:=by omega
   subst hk2;go_wp2
   go_loopw [6,7,8] (fun v st i wr=>∃(a k:Nat) (xs:List (List UInt8)),a≤k∧k≤s.size∧xs.length≤k∧i=.int .i64 k∧st=.int .i64 a ∧
     wr.ownsRow w.heap.size 9 1 v xs.length (xs.map strV)∧Below w.heap.size w wr∧Hid (zFz (bytes s)=xs++zDo (sub (bytes s) a k) ((bytes s).drop k))) (fun _ _ i _=>s.size - (intOf i).toNat)
   case atStart=>exact⟨0,0,[],by omega,by omega,by simp,rfl,rfl,World.ownsRow_nil _ _ _ _,Below.refl _ _,hid (by rw[sub_self,List.drop_zero];rfl)⟩
   case round=>
    obtain⟨a,k,xs,ha,hk,hx,rfl,rfl,hown,hb,H⟩:=hrel;have hsz:=hb.size;by_cases hlt:k<s.size
    ·cases hc:((s[k].toNat:Int)==10)with
     |true=>
      have E:=hid (linesGo_feed s a k hlt hc);go_wp2_with (first|(at_builtin;refine zCq _ rfl _ _ 82 rfl w.heap.size 9 i0 _ 1 16 Tryz.underlying82 Hi0.out Hz0.out Hz1.out Hz2.out rfl (by decide) _ xs.length (xs.map strV) rfl hown #[.string (s.extract a k)] rfl rfl (one_str _) (by omega) (by decide) hsz ?_;intro v1 w1 hown1 hb1))
      go_roundw
      case rel=>exact⟨k+1,k+1,xs++[sub (bytes s) a k],by omega,by omega,by simp;omega,by go_num,by go_num,by rw[ext_v,zKk]at hown1;simpa using hown1,hb.trans hb1,hid (app1 (by rw[H.out,E.out]))⟩
      case measure=>simp[intOf];omega
     |false=>
      have E:=hid (linesGo_else s a k ha hlt hc);go_wp2
      go_roundw
      case rel=>exact⟨a,k+1,xs,by omega,by omega,by omega,by go_num,rfl,hown,hb,hid (by rw[H.out,E.out])⟩
      case measure=>simp[intOf];omega
    ·have E:=hid (linesGo_end s a k (by omega) ha)
     by_cases hal:a<s.size
     ·go_wp2_with (first|(at_builtin;refine zCq _ rfl _ _ 82 rfl w.heap.size 9 i0 _ 1 16 Tryz.underlying82 Hi0.out Hz0.out Hz1.out Hz2.out rfl (by decide) _ xs.length (xs.map strV) rfl hown #[.string (s.extract a s.size)] rfl rfl (one_str _) (by omega) (by decide) hsz ?_;intro v1 w1 hown1 hb1))
      go_ret2;refine zJn Hf.out (n:=xs.length+1) (xs:=xs++[sub (bytes s) a s.size]) (by rw[H.out,E.out,if_pos hal]) (by simp) ?_ (hb.trans hb1);rw[ext_v,zKk]at hown1;exact hown1
     ·go_wp2
      go_ret2;exact zJn Hf.out (by rw[H.out,E.out,if_neg hal,List.append_nil]) rfl hown hb
theorem lines_any(s:ByteArray)(w:World):Calls Tryz.prog 115 #[.string s] w (zGe (bytes s) w):=by
 by_cases h:65536<s.size
 ·exact lines_limit s w h
 ·cases hv:zEe (bytes s)with
  |true=>exact lines_ok s w h hv
  |false=>exact lines_bad s w h hv
def FieldsPost(xs:List (List UInt8))(w:World)(e:Ending)(w' : World):Prop :=
 ∃v,e=.returned v∧w'.ownsRow w.heap.size 9 1 v xs.length (xs.map strV)∧Below w.heap.size w w'
theorem fields_blank(cm:Int)(s:ByteArray)(k:Nat)(h:k<s.size)(hb:zGt s[k].toNat=true):zBg cm none ((bytes s).drop k)=zBg cm none ((bytes s).drop (k+1)):=by
 rw[zCf s k h,zBg,if_pos hb]
theorem fields_comment(cm:Int)(s:ByteArray)(k:Nat)(h:k<s.size)(hb:zGt s[k].toNat=false)(hc:((s[k].toNat:Int)==cm)=true):zBg cm none ((bytes s).drop k)=[]:=by
 rw[zCf s k h,zBg,if_neg (by simp[hb]),if_pos (by simpa using hc)]
theorem fields_open(cm:Int)(s:ByteArray)(k:Nat)(h:k<s.size)(hb:zGt s[k].toNat=false)(hc:((s[k].toNat:Int)==cm)=false) :
  zBg cm none ((bytes s).drop k)=zBg cm (some (sub (bytes s) k k)) ((bytes s).drop k):=by
 rw[zCf s k h,zBg,if_neg (by simp[hb]),if_neg (by simpa using hc),zBg,if_neg (by simp[hb]),sub_self];rfl
theorem fields_on(cm:Int)(s:ByteArray)(a k:Nat)(ha:a≤k)(h:k<s.size)(hb:zGt s[k].toNat=false) :
  zBg cm (some (sub (bytes s) a k)) ((bytes s).drop k)=zBg cm (some (sub (bytes s) a (k+1))) ((bytes s).drop (k+1)):=by
 rw[zCf s k h,zBg,if_neg (by simp[hb]),sub_snoc s a k ha h]
theorem fields_shut(cm:Int)(s:ByteArray)(a k:Nat)(h:k<s.size)(hb:zGt s[k].toNat=true) :
  zBg cm (some (sub (bytes s) a k)) ((bytes s).drop k)=sub (bytes s) a k :: zBg cm none ((bytes s).drop k):=by
 rw[zCf s k h,zBg,if_pos hb,zBg,if_pos hb]
theorem fields_last(cm:Int)(s:ByteArray)(a k:Nat)(h:¬k<s.size) :
  zBg cm (some (sub (bytes s) a k)) ((bytes s).drop k)=sub (bytes s) a k :: zBg cm none ((bytes s).drop k):=by
 rw[zFs s k h];rfl
theorem fields_end(cm:Int)(s:ByteArray)(k:Nat)(h:¬k<s.size):zBg cm none ((bytes s).drop k)=[]:=by
 rw[zFs s k h];rfl
theorem zIx{xs ys:List (List UInt8)}{w w' : World}{v:Value}(e:xs=ys)(ho:w'.ownsRow w.heap.size 9 1 v ys.length (ys.map strV))(hb:Below w.heap.size w w'):FieldsPost xs w (.returned v) w' :=
 ⟨v,rfl,by rw[e];exact ho,hb⟩
set_option maxRecDepth 4000 in
theorem fields_any(s:ByteArray)(cm:Int)(w:World)(hs:s.size≤1000000000):Calls Tryz.prog 116 #[.string s,.int .u8 cm] w (FieldsPost (zDv cm (bytes s)) w):=by
 obtain⟨i0,hi0,hz0,hz1,hz2⟩:=info_parts Tryz.strInfo;have Hi0:=hid hi0;have Hz0:=hid hz0;have Hz1:=hid hz1;have Hz2:=hid hz2;clear hi0 hz0 hz1 hz2;go_enter Tryz.func116,Tryz.ntmps116;go_wp2
 go_loopw [5,6,7] (fun v i _ wr=>∃(k:Nat) (xs:List (List UInt8)),k≤s.size∧xs.length≤k∧i=.int .i64 k ∧
   wr.ownsRow w.heap.size 9 1 v xs.length (xs.map strV)∧Below w.heap.size w wr∧Hid (zDv cm (bytes s)=xs++zBg cm none ((bytes s).drop k))) (fun _ i _ _=>s.size - (intOf i).toNat)
 case atStart=>exact⟨0,[],by omega,by simp,rfl,World.ownsRow_nil _ _ _ _,Below.refl _ _,hid (by rw[List.drop_zero];rfl)⟩
 case round=>
  obtain⟨k,xs,hk,hx,rfl,hown,hb,H⟩:=hrel;have hsz:=hb.size;by_cases hlt:k<s.size
  ·cases hbl:zGt s[k].toNat with
   |true=>
    have E:=hid (fields_blank cm s k hlt hbl);go_wp2_with (first|(go_at_call 142;refine(zGf _ _).mono ?_;rintro e w' ⟨rfl,rfl⟩))
    go_roundw
    case rel=>exact⟨k+1,xs,by omega,by omega,by go_num,hown,hb,hid (by rw[H.out,E.out])⟩
    case measure=>simp[intOf];omega
   |false=>
    cases hc:((s[k].toNat:Int)==cm)with
    |true=>
     have E:=hid (fields_comment cm s k hlt hbl hc);go_wp2_with (first|(go_at_call 142;refine(zGf _ _).mono ?_;rintro e w' ⟨rfl,rfl⟩));go_ret;exact zIx (by rw[H.out,E.out,List.append_nil]) hown hb
    |false=>
     have E:=hid (fields_open cm s k hlt hbl hc);obtain⟨wo,rfl⟩:∃wo:World,wo=wr:=⟨_,rfl⟩;go_wp2_with (first|(go_at_call 142;refine(zGf _ _).mono ?_;rintro e w' ⟨rfl,rfl⟩));have H0:Hid (zDv cm (bytes s)=xs++zBg cm (some (sub (bytes s) k k)) ((bytes s).drop k)):=hid (by rw[H.out,E.out]);clear E H;go_loop [6] (fun i=>∃j:Nat,k≤j∧j≤s.size∧i=.int .i64 j∧Hid (j=k→zGt s[k].toNat=false)∧Hid (zDv cm (bytes s)=xs++zBg cm (some (sub (bytes s) k j)) ((bytes s).drop j))) (fun i=>s.size - (intOf i).toNat);case atStart=>exact⟨k,by omega,by omega,rfl,hid (fun _=>hbl),H0⟩
     case round=>
      obtain⟨j,hj1,hj2,rfl,HJ,H⟩:=hrel;by_cases hlt2:j<s.size
      ·cases hbj:zGt s[j].toNat with
       |false=>
        have E:=hid (fields_on cm s k j hj1 hlt2 hbj);go_wp2_with (first|(go_at_call 142;refine(zGf _ _).mono ?_;rintro e w' ⟨rfl,rfl⟩))
        go_round
        case rel=>exact⟨j+1,by omega,by omega,by go_num,hid (fun h=>by omega),hid (by rw[H.out,E.out])⟩
        case measure=>simp[intOf];omega
       |true=>
        have E:=hid (fields_shut cm s k j hlt2 hbj)
        have hjk:k<j:=by
         rcases Nat.lt_or_ge k j with h|h
         ·exact h
         ·have e:j=k:=by omega
          have:=HJ.out e;subst e;rw[hbj]at this;cases this
        go_wp2_with (first|(go_at_call 142;refine(zGf _ _).mono ?_;rintro e w' ⟨rfl,rfl⟩)|(at_builtin;refine zCq _ rfl _ _ 82 rfl w.heap.size 9 i0 _ 1 16 Tryz.underlying82 Hi0.out Hz0.out Hz1.out Hz2.out rfl (by decide) _ xs.length (xs.map strV) rfl hown #[.string (s.extract k j)] rfl rfl (one_str _) (by omega) (by decide) hsz ?_;intro v1 w1 hown1 hb1))
        go_roundw
        case rel=>exact⟨j,xs++[sub (bytes s) k j],by omega,by simp;omega,rfl,by rw[ext_v,zKk]at hown1;simpa using hown1,hb.trans hb1,hid (app1 (by rw[H.out,E.out]))⟩
        case measure=>simp[intOf];omega
      ·have E:=hid (fields_last cm s k j hlt2)
       go_wp2_with (first|(go_at_call 142;refine(zGf _ _).mono ?_;rintro e w' ⟨rfl,rfl⟩)|(at_builtin;refine zCq _ rfl _ _ 82 rfl w.heap.size 9 i0 _ 1 16 Tryz.underlying82 Hi0.out Hz0.out Hz1.out Hz2.out rfl (by decide) _ xs.length (xs.map strV) rfl hown #[.string (s.extract k j)] rfl rfl (one_str _) (by omega) (by decide) hsz ?_;intro v1 w1 hown1 hb1))
       go_roundw
       case rel=>exact⟨j,xs++[sub (bytes s) k j],by omega,by simp;omega,rfl,by rw[ext_v,zKk]at hown1;simpa using hown1,hb.trans hb1,hid (app1 (by rw[H.out,E.out]))⟩
       case measure=>simp[intOf];omega
  ·have E:=hid (fields_end cm s k hlt)
   go_wp2;go_ret;exact zIx (by rw[H.out,E.out,List.append_nil]) hown hb
theorem zAe(l:List UInt8):(str l).toList=l:=by rw[Go.ByteArray.toList_eq];simp[str]
theorem list_step{α:Type}(l:List α)(k:Nat)(h:k<l.length):l.drop k=l[k] :: l.drop (k+1):=List.drop_eq_getElem_cons h
theorem slc_at{w:World}{B:Nat}{A:Option Addr}{n c:Nat}{xs:List (List UInt8)}(h:Slc w B 1 (.slice A n c) n (xs.map strV))(hn:n=xs.length){k:Nat}(hk:k<xs.length) :
  ∃g o,A=some ⟨g,o,none⟩∧g<B∧w.cell? ⟨g,o+k,none⟩=some (strV xs[k]):=by
 obtain⟨A', c', e,_,_,_,h⟩:=h;injection e with e1 e2 e3
 subst e1;obtain⟨g,o,rfl,hg,hc⟩:=h (by omega);exact⟨g,o,rfl,hg,hc k _ (by simp[hk])⟩
def digC(n:Nat):UInt8:=UInt8.ofNat (48+n)
theorem zJe(n:Nat)(h:n<10):(digC n).toNat=48+n:=by
 unfold digC;rw[UInt8.toNat_ofNat'];omega
def dec(n:Nat):List UInt8:=if n<10 then [digC n]else dec (n / 10)++[digC (n % 10)]
termination_by n
theorem zGv{n:Nat}(h:n<10):dec n=[digC n]:=by rw[dec,if_pos h]
theorem dec_big{n:Nat}(h:¬n<10):dec n=dec (n / 10)++[digC (n % 10)]:=by rw[dec,if_neg h]
theorem numGo_snoc(b:UInt8):∀(l:List UInt8) (v:Int),numGo v (l++[b])=(numGo v l).bind fun u=>if zFv b.toNat then some (u*10+(b.toNat - 48))else none:=by
 intro l;induction l with
 |nil=>intro v;simp only[List.nil_append,numGo,Option.bind_some]
 |cons c r ih=>
  intro v;simp only[List.cons_append,numGo];split
  ·exact ih _
  ·rfl
theorem digC_digit{n:Nat}(h:n<10):zFv (digC n).toNat=true:=by
 rw[zJe n h];simp[zFv];omega
theorem numGo_dec(n:Nat):numGo 0 (dec n)=some (n:Int):=by
 induction n using Nat.strongRecOn with
 |ind n ih=>
  by_cases h:n<10
  ·rw[zGv h,numGo,digC_digit h,zJe n h]
   simp[numGo];omega
  ·have hm:n % 10<10:=Nat.mod_lt _ (by omega)
   rw[dec_big h,numGo_snoc,ih (n / 10) (by omega),digC_digit hm,zJe _ hm];simp;omega
theorem zGy:∀(k n:Nat),n<10 ^ (k+1)→(dec n).length≤k+1:=by
 intro k;induction k with
 |zero=>intro n h;rw[zGv (by simpa using h)];simp
 |succ k ih=>
  intro n h;by_cases h9:n<10
  ·rw[zGv h9];simp
  ·rw[dec_big h9]
   have:=ih (n / 10) (by rw[Nat.pow_succ]at h;omega);simp;omega
theorem dig_ext:∀n:Nat,n<10→ByteArray.extract ⟨#[48,49,50,51,52,53,54,55,56,57]⟩ n (n+1)=str [digC n]:=by decide +kernel
theorem zGr(a b:List UInt8):str a++str b=str (a++b):=by
 apply ByteArray.ext;simp[str,ByteArray.data_append]
set_option maxRecDepth 4000 in
theorem zIa(n:Nat):∀(w:World),n≤9223372036854775807→Calls Tryz.prog 64 #[.int .i64 n] w fun e w' => e=.returned (.string (str (dec n)))∧w=w' := by
 induction n using Nat.strongRecOn with
 |ind n ih=>
  intro w hn;have IH:=hid ih;clear ih;have hd:=Nat.mod_lt n (show 0<10 by omega);by_cases h9:n<10
  ·have E:=hid (zGv h9)
   go_enter Tryz.func64,Tryz.ntmps64;go_wp2;go_ret;exact⟨by rw[E.out,Nat.mod_eq_of_lt h9,dig_ext n h9];rfl,rfl⟩
  ·have E:=hid (dec_big h9)
   go_enter Tryz.func64,Tryz.ntmps64;go_wp2_with fail;rw[show((n:Int) / 10)=((n / 10:Nat):Int)from by omega];refine(IH.out (n / 10) (by omega) _ (by omega)).mono ?_;rintro e w' ⟨rfl,rfl⟩;rw[dig_ext (n % 10) hd];have hs:(str (dec (n / 10))).size≤19:=by rw[zBx];exact zGy 18 (n / 10) (by omega)
   have hs1:(str [digC (n % 10)]).size=1:=zBx _;go_wp2;go_ret;exact⟨by rw[E.out,zGr];rfl,rfl⟩
end Go.Proofs.YthcnojmldldpeaaGreatDoor
