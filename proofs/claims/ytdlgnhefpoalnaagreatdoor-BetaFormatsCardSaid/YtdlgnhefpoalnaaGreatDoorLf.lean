/- The decimal form of a number: the reference's Decimal computes it, and Number reads it back. Condition: the number is not negative (and an int). -/
import Derived.Test.YtdlgnhefpoalnaaGreatDoorLd
set_option maxHeartbeats 800000
namespace Go.Proofs.YtdlgnhefpoalnaaGreatDoor
open Lib (hid)
open Go.RowKit
theorem zHo(c:Int)(w:World):Calls Tryz.prog 63 #[.int .u8 c] w fun e w' => e=.returned (.bool (zIu c))∧w=w' := by
 go_enter Tryz.func63,Tryz.ntmps63;go_wp2
 all_goals (go_ret;refine⟨?_,rfl⟩;simp_all[zIu])
theorem zIi(c:Int)(w:World):Calls Tryz.prog 166 #[.int .u8 c] w fun e w' => e=.returned (.bool (zGv c))∧w=w' := by
 go_enter Tryz.func166,Tryz.ntmps166;go_wp2
 all_goals (go_ret;refine⟨?_,rfl⟩;(try simp_all[zGv])<;>omega)
theorem zLn(c:Int)(w:World):Calls Tryz.prog 165 #[.int .u8 c] w fun e w' => e=.returned (.bool (zIg c))∧w=w' := by
 go_enter Tryz.func165,Tryz.ntmps165;go_wp2
 all_goals (go_ret;refine⟨zAe ?_,rfl⟩;rw[Bool.eq_iff_iff];(try simp[zIg])<;>omega)
theorem zLf(c:Int)(w:World):Calls Tryz.prog 64 #[.int .u8 c] w fun e w' => e=.returned (.bool (markB c))∧w=w' := by
 go_enter Tryz.func64,Tryz.ntmps64;go_wp2
 all_goals (go_ret;refine⟨?_,rfl⟩;simp_all[markB])
theorem inWord_any(c:Int)(w:World):Calls Tryz.prog 65 #[.int .u8 c] w fun e w' => e=.returned (.bool (wordB c))∧w=w' := by
 cases hb:zIu c with
 |true=>
  go_enter Tryz.func65,Tryz.ntmps65;go_wp2_with (first|(go_at_call 63;refine(zHo _ _).mono ?_;rintro e w' ⟨rfl,rfl⟩)|(go_at_call 64;refine(zLf _ _).mono ?_;rintro e w' ⟨rfl,rfl⟩))
  all_goals (go_ret;exact⟨zAe (by simp[wordB,hb]),rfl⟩)
 |false=>
  cases hm:markB c with
  |true=>
   go_enter Tryz.func65,Tryz.ntmps65;go_wp2_with (first|(go_at_call 63;refine(zHo _ _).mono ?_;rintro e w' ⟨rfl,rfl⟩)|(go_at_call 64;refine(zLf _ _).mono ?_;rintro e w' ⟨rfl,rfl⟩))
   all_goals (go_ret;exact⟨zAe (by simp[wordB,hm]),rfl⟩)
  |false=>
   go_enter Tryz.func65,Tryz.ntmps65;go_wp2_with (first|(go_at_call 63;refine(zHo _ _).mono ?_;rintro e w' ⟨rfl,rfl⟩)|(go_at_call 64;refine(zLf _ _).mono ?_;rintro e w' ⟨rfl,rfl⟩))
   all_goals (go_ret;exact⟨zAe (by simp[wordB,hb,hm,bne]),rfl⟩)
theorem zKb(c:Int)(w:World):Calls Tryz.prog 120 #[.int .u8 c] w fun e w' => e=.returned (.bool (zIg c))∧w=w' := by
 go_enter Tryz.func120,Tryz.ntmps120;go_wp2
 all_goals (go_ret;refine⟨zAe ?_,rfl⟩;rw[Bool.eq_iff_iff];(try simp[zIg])<;>omega)
theorem name_short{s:ByteArray}(h:s.size<1):nameB (bytes s)=false:=by
 rw[List.eq_nil_of_length_eq_zero (by rw[zBz];omega:(bytes s).length=0)];rfl
theorem name_long{s:ByteArray}(h:15<s.size):nameB (bytes s)=false:=by
 have hl:=zBz s;rw[←List.drop_zero (l:=bytes s),zCq s 0 (by omega)];simp only[nameB,List.length_drop];rw[decide_eq_false (by omega)];rfl
theorem name_fits{s:ByteArray}(h1:0<s.size)(h2:¬15<s.size):nameB (bytes s)=(zIg s[0].toNat&&zJd ((bytes s).drop 1)):=by
 have hl:=zBz s
 conv=>lhs;rw[←List.drop_zero (l:=bytes s),zCq s 0 (by omega)]
 simp only[nameB,List.length_drop];rw[decide_eq_true (by omega)];simp
theorem zKm(s:ByteArray)(k:Nat)(h:k<s.size):zJd ((bytes s).drop k)=(nameC s[k].toNat&&zJd ((bytes s).drop (k+1))):=by
 rw[zCq s k h];rfl
set_option maxRecDepth 4000 in
theorem name_any(s:ByteArray)(w:World):Calls Tryz.prog 87 #[.string s] w fun e w' => e=.returned (.bool (nameB (bytes s)))∧w=w' := by
 by_cases h1:s.size<1
 ·have Hf:=hid (name_short h1)
  go_enter Tryz.func87,Tryz.ntmps87;go_wp2;go_ret;exact⟨zAe Hf.out.symm,rfl⟩
 by_cases h2:15<s.size
 ·have Hf:=hid (name_long h2)
  go_enter Tryz.func87,Tryz.ntmps87;go_wp2;go_ret;exact⟨zAe Hf.out.symm,rfl⟩
 have Hs:=hid (name_fits (by omega) h2);have d1:decide ((s.size:Int)<1)=false:=by simp;omega
 have d2:decide ((15:Int)<s.size)=false:=by simp;omega
 cases hc:zIg s[0].toNat with
 |false=>
  go_enter Tryz.func87,Tryz.ntmps87;go_wp2_with (first|(go_at_call 165;refine(zLn _ _).mono ?_;rintro e w' ⟨rfl,rfl⟩));go_ret;exact⟨zAe (by rw[Hs.out,hc];rfl),rfl⟩
 |true=>
  go_enter Tryz.func87,Tryz.ntmps87;go_wp2_with (first|(go_at_call 165;refine(zLn _ _).mono ?_;rintro e w' ⟨rfl,rfl⟩));go_loop [2,3,4] (fun _ i _=>∃k:Nat,1≤k∧k≤s.size∧i=.int .i64 k∧Hid (nameB (bytes s)=zJd ((bytes s).drop k))) (fun _ i _=>s.size - (intOf i).toNat);case atStart=>exact⟨1,by omega,by omega,rfl,by rw[Hs.out,hc];rfl⟩
  case round=>
   obtain⟨k,hk1,hk,rfl,H⟩:=hrel;by_cases hlt:k<s.size
   ·have E:=hid (zKm s k hlt)
    go_wp2_with (first|(go_at_call 165;refine(zLn _ _).mono ?_;rintro e w' ⟨rfl,rfl⟩)|(go_at_call 166;refine(zIi _ _).mono ?_;rintro e w' ⟨rfl,rfl⟩))
    all_goals first
     | (go_round
        case rel=>exact⟨k+1,by omega,by omega,by go_num,by rw[H.out,E.out,show nameC s[k].toNat=true from by(simp_all[nameC,bne])];rfl⟩
        case measure=>simp[intOf];omega)
     |(go_ret;exact⟨zAe (by rw[H.out,E.out,show nameC s[k].toNat=false from by(simp_all[nameC,bne])];rfl),rfl⟩)
   ·go_wp2_with fail
    go_ret;exact⟨zAe (by rw[H.out,zHf s k hlt];rfl),rfl⟩
set_option maxRecDepth 4000 in
theorem rname_any(s:ByteArray)(w:World):Calls Tryz.prog 50 #[.string s] w fun e w' => e=.returned (.bool (nameB (bytes s)))∧w=w' := by
 by_cases h1:s.size<1
 ·have Hf:=hid (name_short h1)
  go_enter Tryz.func50,Tryz.ntmps50;go_wp2;go_ret;exact⟨zAe Hf.out.symm,rfl⟩
 by_cases h2:15<s.size
 ·have Hf:=hid (name_long h2)
  go_enter Tryz.func50,Tryz.ntmps50;go_wp2;go_ret;exact⟨zAe Hf.out.symm,rfl⟩
 have Hs:=hid (name_fits (by omega) h2);have d1:decide ((s.size:Int)<1)=false:=by simp;omega
 have d2:decide ((15:Int)<s.size)=false:=by simp;omega
 cases hc:zIg s[0].toNat with
 |false=>
  go_enter Tryz.func50,Tryz.ntmps50;go_wp2_with (first|(go_at_call 120;refine(zKb _ _).mono ?_;rintro e w' ⟨rfl,rfl⟩));go_ret;exact⟨zAe (by rw[Hs.out,hc];rfl),rfl⟩
 |true=>
  go_enter Tryz.func50,Tryz.ntmps50;go_wp2_with (first|(go_at_call 120;refine(zKb _ _).mono ?_;rintro e w' ⟨rfl,rfl⟩));go_loop [2,3,4] (fun _ i _=>∃k:Nat,1≤k∧k≤s.size∧i=.int .i64 k∧Hid (nameB (bytes s)=zJd ((bytes s).drop k))) (fun _ i _=>s.size - (intOf i).toNat);case atStart=>exact⟨1,by omega,by omega,rfl,by rw[Hs.out,hc];rfl⟩
  case round=>
   obtain⟨k,hk1,hk,rfl,H⟩:=hrel;by_cases hlt:k<s.size
   ·have E:=hid (zKm s k hlt)
    go_wp2_with (first|(go_at_call 120;refine(zKb _ _).mono ?_;rintro e w' ⟨rfl,rfl⟩))
    all_goals first
     | (go_round
        case rel=>exact⟨k+1,by omega,by omega,by go_num,by rw[H.out,E.out,show nameC s[k].toNat=true from by(simp_all[nameC,zGv,bne])];rfl⟩
        case measure=>simp[intOf];omega)
     |(go_ret;exact⟨zAe (by rw[H.out,E.out,show nameC s[k].toNat=false from by((try simp_all[nameC,zGv,bne])<;>omega)];rfl),rfl⟩)
   ·go_wp2_with fail
    go_ret;exact⟨zAe (by rw[H.out,zHf s k hlt];rfl),rfl⟩
theorem zKu{l:List UInt8}(h:numOf l=none)(least most:Int):numIn l least most=none:=by simp[numIn,h]
theorem num_short{s:ByteArray}(h:s.size<1):numOf (bytes s)=none:=by
 rw[List.eq_nil_of_length_eq_zero (by rw[zBz];omega:(bytes s).length=0)];rfl
theorem bytes_two{s:ByteArray}(h:1<s.size):bytes s=s[0] :: s[1] :: (bytes s).drop 2:=by
 conv=>lhs;rw[←List.drop_zero (l:=bytes s),zCq s 0 (by omega),zCq s 1 (by omega)]
theorem num_long{s:ByteArray}(h:10<s.size):numOf (bytes s)=none:=by
 have hl:=zBz s;rw[bytes_two (by omega)]at hl⊢;simp only[numOf,zIn,hl];rw[decide_eq_false (by omega)];rfl
theorem num_zero{s:ByteArray}(h:1<s.size)(h0:((s[0].toNat:Int)==48)=true):numOf (bytes s)=none:=by
 rw[bytes_two h];simp[numOf,zIn,h0]
theorem num_fits{s:ByteArray}(h1:0<s.size)(h2:¬10<s.size)(h3:¬(1<s.size∧((s[0].toNat:Int)==48)=true)):numOf (bytes s)=numGo 0 ((bytes s).drop 0):=by
 rw[List.drop_zero];by_cases h:1<s.size
 ·have hl:=zBz s
  have h4:((s[0].toNat:Int)==48)=false:=by
   cases h' : ((s[0].toNat:Int)==48)
   ·rfl
   ·exact absurd ⟨h,h'⟩ h3
  have e:zIn (bytes s)=true:=by
   rw[bytes_two h]at hl⊢;simp only[zIn,hl,h4];rw[decide_eq_true (by omega)];rfl
  simp[numOf,e]
 ·have hs:bytes s=[s[0]]:=by
   conv=>lhs;rw[←List.drop_zero (l:=bytes s),zCq s 0 (by omega),zHf s 1 (by omega)]
  have e:zIn (bytes s)=true:=by rw[hs];rfl
  simp[numOf,e]
theorem num_bd{n:Int}{k:Nat}(hk:k≤9)(h:n<10 ^ k):n≤999999999:=by
 have:(10:Int) ^ k≤10 ^ 9:=by
  have h1:(10:Nat) ^ k≤10 ^ 9:=Nat.pow_le_pow_right (by omega) hk
  exact_mod_cast h1
 have e:(10:Int) ^ 9=1000000000:=by decide
 omega
theorem pow_step{n d:Int}{k:Nat}(h:n<10 ^ k)(hd:d≤9):n*10+d<10 ^ (k+1):=by
 rw[Int.pow_succ];omega
theorem numGo_stop(s:ByteArray)(k:Nat)(n:Int)(h:k<s.size)(hd:zGv s[k].toNat=false):numGo n ((bytes s).drop k)=none:=by
 rw[zCq s k h,numGo,hd];rfl
theorem numGo_go(s:ByteArray)(k:Nat)(n:Int)(h:k<s.size)(hd:zGv s[k].toNat=true) :
  numGo n ((bytes s).drop k)=numGo (n*10+(s[k].toNat - 48)) ((bytes s).drop (k+1))∧48≤(s[k].toNat:Int)∧(s[k].toNat:Int)≤57:=by
 refine⟨by rw[zCq s k h,numGo,hd];rfl,?_⟩;simp only[zGv,Bool.and_eq_true,decide_eq_true_eq]at hd;exact hd
theorem numGo_end(s:ByteArray)(k:Nat)(n:Int)(h:¬k<s.size)(e:numOf (bytes s)=numGo n ((bytes s).drop k)):numOf (bytes s)=some n:=by
 rw[e,zHf s k h];rfl
theorem num_out{l:List UInt8}{n least most:Int}(e:numOf l=some n)(h:n<least∨most<n):numIn l least most=none:=by
 simp only[numIn,e];rw[if_neg (by omega)]
theorem num_in{l:List UInt8}{n least most:Int}(e:numOf l=some n)(h1:least≤n)(h2:n≤most):numIn l least most=some n:=by
 simp only[numIn,e];rw[if_pos ⟨h1,h2⟩]
set_option maxRecDepth 4000 in
theorem zLr(s:ByteArray)(least most:Int)(w:World):Calls Tryz.prog 245 #[.string s,.int .i64 least,.int .i64 most] w fun e w' =>
  e=.returned (.tuple #[.int .i64 (numV (numIn (bytes s) least most)),.bool (numIn (bytes s) least most).isSome])∧w=w' := by
 by_cases h1:s.size<1
 ·have Hf:=hid (zKu (num_short h1) least most)
  go_enter Tryz.func245,Tryz.ntmps245;go_wp2;go_ret2;exact⟨by rw[Hf.out];rfl,rfl⟩
 by_cases h2:10<s.size
 ·have Hf:=hid (zKu (num_long h2) least most)
  go_enter Tryz.func245,Tryz.ntmps245;go_wp2;go_ret2;exact⟨by rw[Hf.out];rfl,rfl⟩
 have d1:decide ((s.size:Int)<1)=false:=by simp;omega
 have d2:decide ((10:Int)<s.size)=false:=by simp;omega
 by_cases h3:1<s.size∧((s[0].toNat:Int)==48)=true
 ·obtain⟨h3,h4⟩:=h3
  have Hf:=hid (zKu (num_zero h3 h4) least most);go_enter Tryz.func245,Tryz.ntmps245;go_wp2;go_ret2;exact⟨by rw[Hf.out];rfl,rfl⟩
 have Hs:=hid (num_fits (by omega) h2 h3);by_cases h5:1<s.size
 ·have d5:decide ((1:Int)<s.size)=true:=by simp;omega
  have h6:((s[0].toNat:Int)==48)=false:=by
   cases h:((s[0].toNat:Int)==48)
   ·rfl
   ·exact absurd ⟨h5,h⟩ h3
  clear h3;go_enter Tryz.func245,Tryz.ntmps245;go_wp2_with fail;go_loop [6,7,8,9] (fun _ _ v i=>∃(k:Nat) (n:Int),k≤s.size∧0≤n∧i=.int .i64 k∧v=.int .i64 n∧Hid (n<10 ^ k)∧Hid (numOf (bytes s)=numGo n ((bytes s).drop k))) (fun _ _ _ i=>s.size - (intOf i).toNat);case atStart=>exact⟨0,0,by omega,by omega,rfl,rfl,hid (by decide),Hs⟩
  case round=>
   obtain⟨k,n,hk,hn,rfl,rfl,HB,H⟩:=hrel;by_cases hlt:k<s.size
   ·have hn2:n≤999999999:=num_bd (by omega) HB.out
    cases hd:zGv s[k].toNat with
    |false=>
     have E:=hid (numGo_stop s k n hlt hd)
     skip
     all_goals go_wp2_with (first|(go_at_call 166;refine(zIi _ _).mono ?_;rintro e w' ⟨rfl,rfl⟩))
     all_goals (go_ret2;exact⟨by rw[zKu (H.out.trans E.out)];rfl,rfl⟩)
    |true=>
     obtain⟨E0,hd1,hd2⟩:=numGo_go s k n hlt hd;have E:=hid E0;clear E0
     skip
     go_wp2_with (first|(go_at_call 166;refine(zIi _ _).mono ?_;rintro e w' ⟨rfl,rfl⟩))
     go_round
     case rel=>exact⟨k+1,n*10+(s[k].toNat - 48),by omega,by omega,by go_num,by go_num,hid (pow_step HB.out (by omega)),hid (H.out.trans E.out)⟩
     case measure=>simp[intOf];omega
   ·have E:=hid (numGo_end s k n hlt H.out)
    clear H HB;by_cases hl:n<least
    ·have Hf:=hid (num_out (most:=most) E.out (Or.inl hl))
     go_wp2_with fail;go_ret2;exact⟨by rw[Hf.out];rfl,rfl⟩
    by_cases hm:most<n
    ·have Hf:=hid (num_out (least:=least) E.out (Or.inr hm))
     go_wp2_with fail;go_ret2;exact⟨by rw[Hf.out];rfl,rfl⟩
    have Hf:=hid (num_in E.out (Int.not_lt.1 hl) (Int.not_lt.1 hm));go_wp2_with fail;go_ret2;exact⟨by rw[Hf.out];rfl,rfl⟩
 ·have d5:decide ((1:Int)<s.size)=false:=by simp;omega
  clear h3;go_enter Tryz.func245,Tryz.ntmps245;go_wp2_with fail;go_loop [6,7,8,9] (fun _ _ v i=>∃(k:Nat) (n:Int),k≤s.size∧0≤n∧i=.int .i64 k∧v=.int .i64 n∧Hid (n<10 ^ k)∧Hid (numOf (bytes s)=numGo n ((bytes s).drop k))) (fun _ _ _ i=>s.size - (intOf i).toNat);case atStart=>exact⟨0,0,by omega,by omega,rfl,rfl,hid (by decide),Hs⟩
  case round=>
   obtain⟨k,n,hk,hn,rfl,rfl,HB,H⟩:=hrel;by_cases hlt:k<s.size
   ·have hn2:n≤999999999:=num_bd (by omega) HB.out
    cases hd:zGv s[k].toNat with
    |false=>
     have E:=hid (numGo_stop s k n hlt hd)
     skip
     all_goals go_wp2_with (first|(go_at_call 166;refine(zIi _ _).mono ?_;rintro e w' ⟨rfl,rfl⟩))
     all_goals (go_ret2;exact⟨by rw[zKu (H.out.trans E.out)];rfl,rfl⟩)
    |true=>
     obtain⟨E0,hd1,hd2⟩:=numGo_go s k n hlt hd;have E:=hid E0;clear E0
     skip
     go_wp2_with (first|(go_at_call 166;refine(zIi _ _).mono ?_;rintro e w' ⟨rfl,rfl⟩))
     go_round
     case rel=>exact⟨k+1,n*10+(s[k].toNat - 48),by omega,by omega,by go_num,by go_num,hid (pow_step HB.out (by omega)),hid (H.out.trans E.out)⟩
     case measure=>simp[intOf];omega
   ·have E:=hid (numGo_end s k n hlt H.out)
    clear H HB;by_cases hl:n<least
    ·have Hf:=hid (num_out (most:=most) E.out (Or.inl hl))
     go_wp2_with fail;go_ret2;exact⟨by rw[Hf.out];rfl,rfl⟩
    by_cases hm:most<n
    ·have Hf:=hid (num_out (least:=least) E.out (Or.inr hm))
     go_wp2_with fail;go_ret2;exact⟨by rw[Hf.out];rfl,rfl⟩
    have Hf:=hid (num_in E.out (Int.not_lt.1 hl) (Int.not_lt.1 hm));go_wp2_with fail;go_ret2;exact⟨by rw[Hf.out];rfl,rfl⟩
theorem Tryz.strInfo:(Tryz.prog.info? 9).map (fun i=>(i.zero,i.size,i.bytes))=some (some (.string ByteArray.empty),1,16):=by kernel_rfl
def zFu(l:List UInt8):List (List UInt8):=if zBr l=0 then zCs l else []
def zHm(l:List UInt8)(w:World)(e:Ending)(w' : World):Prop :=
 ∃v,e=.returned (.tuple #[v,.int .i64 (zBr l)])∧w'.ownsRow w.heap.size 9 1 v (zFu l).length ((zFu l).map strV)∧Below w.heap.size w w'
theorem lines_of_limit{s:ByteArray}(h:65536<s.size):zBr (bytes s)=7:=by
 unfold zBr;rw[zBz,if_pos h]
theorem lines_of_bad{s:ByteArray}(h:¬65536<s.size)(hv:zEv (bytes s)=false):zBr (bytes s)=2:=by
 unfold zBr;rw[zBz,if_neg h,hv];rfl
theorem lines_of_ok{s:ByteArray}(h:¬65536<s.size)(hv:zEv (bytes s)=true):zBr (bytes s)=0:=by
 unfold zBr;rw[zBz,if_neg h,hv];rfl
theorem zKv{l:List UInt8}{n:Int}(h:zBr l=n)(hn:n≠0){w w' : World}(hb:Below w.heap.size w w'):zHm l w (.returned (.tuple #[.slice none 0 0,.int .i64 n])) w' := by
 refine⟨.slice none 0 0,by rw[h],?_,hb⟩;unfold zFu;rw[if_neg (by rw[h];exact hn)];exact World.ownsRow_nil _ _ _ _
theorem zMb{l:List UInt8}(h:zBr l=0){w w' : World}{v:Value}{n:Nat}{xs:List (List UInt8)}(e:zCs l=xs)(hn:n=xs.length)(ho:w'.ownsRow w.heap.size 9 1 v n (xs.map strV))(hb:Below w.heap.size w w'):zHm l w (.returned (.tuple #[v,.int .i64 0])) w' := by
 refine⟨v,by rw[h],?_,hb⟩;unfold zFu;rw[if_pos h,e,←hn];exact ho
theorem valid_step(s:ByteArray)(k:Nat)(h:k<s.size):zEv ((bytes s).drop k)=(zMj s[k].toNat&&zEv ((bytes s).drop (k+1))):=by
 rw[zCq s k h];rfl
theorem valid_no{c:Int}(h:zMj c=false):(c != 9)=true∧(c != 10)=true∧(c<32∨126<c):=by
 simp only[zMj,Bool.or_eq_false_iff,Bool.and_eq_false_iff,decide_eq_false_iff_not]at h;refine⟨by simp[bne,h.1.1],by simp[bne,h.1.2],?_⟩;omega
theorem valid_yes{c:Int}(h:zMj c=true):(c != 9)=false∨((c != 9)=true∧(c != 10)=false)∨((c != 9)=true∧(c != 10)=true∧32≤c∧c≤126):=by
 simp only[zMj,Bool.or_eq_true,Bool.and_eq_true,decide_eq_true_eq]at h;by_cases h9:c=9
 ·exact .inl (by simp[h9])
 by_cases h10:c=10
 ·exact .inr (.inl ⟨by simp[h9],by simp[h10]⟩)
 ·refine .inr (.inr ⟨by simp[h9],by simp[h10],?_⟩)
  simp[h9,h10]at h;exact h
theorem linesGo_feed(s:ByteArray)(a k:Nat)(h:k<s.size)(hc:((s[k].toNat:Int)==10)=true) :
  zEg (sub (bytes s) a k) ((bytes s).drop k)=sub (bytes s) a k :: zEg (sub (bytes s) (k+1) (k+1)) ((bytes s).drop (k+1)):=by
 rw[zCq s k h,zEg,if_pos (by simpa using hc),sub_self]
theorem linesGo_else(s:ByteArray)(a k:Nat)(ha:a≤k)(h:k<s.size)(hc:((s[k].toNat:Int)==10)=false) :
  zEg (sub (bytes s) a k) ((bytes s).drop k)=zEg (sub (bytes s) a (k+1)) ((bytes s).drop (k+1)):=by
 rw[zCq s k h,zEg,if_neg (by simpa using hc),sub_snoc s a k ha h]
theorem linesGo_end(s:ByteArray)(a k:Nat)(h:k=s.size)(ha:a≤k):zEg (sub (bytes s) a k) ((bytes s).drop k)=if a<s.size then [sub (bytes s) a s.size]else []:=by
 subst h;rw[zHf s s.size (by omega),zEg,flush];have hl:=sub_len (bytes s) a s.size (by rw[zBz];omega);by_cases h:a<s.size
 ·rw[if_neg (by intro e;rw[e]at hl;simp at hl;omega),if_pos h]
 ·rw[if_pos (List.eq_nil_of_length_eq_zero (by omega)),if_neg h]
theorem app1{α:Type}{a b c:List α}{x:α}(h:a=b++x :: c):a=(b++[x])++c:=by simp[h]
theorem one_str(s:ByteArray):∀u∈(#[Value.string s]:Array Value).toList,u.oneCell' = true:=by
 intro u hu;simp at hu;subst hu;rfl
theorem map_snoc(xs:List (List UInt8))(x:List UInt8):xs.map strV++#[strV x].toList=(xs++[x]).map strV:=by simp
set_option maxRecDepth 4000 in
theorem lines_limit(s:ByteArray)(w:World)(h:65536<s.size):Calls Tryz.prog 62 #[.string s] w (zHm (bytes s) w):=by
 have Hf:=hid (lines_of_limit h);go_enter Tryz.func62,Tryz.ntmps62;go_wp2;go_ret2;exact zKv Hf.out (by omega) (Below.refl _ _)
set_option maxRecDepth 4000 in
theorem lines_bad(s:ByteArray)(w:World)(h:¬65536<s.size)(hv:zEv (bytes s)=false):Calls Tryz.prog 62 #[.string s] w (zHm (bytes s) w):=by
 have Hf:=hid (lines_of_bad h hv);have Hv:Hid (zEv ((bytes s).drop 0)=false):=hid (by simpa using hv);clear hv;have d1:decide ((65536:Int)<s.size)=false:=by simp;omega
 go_enter Tryz.func62,Tryz.ntmps62;go_wp2;go_loop [2,3,4,5] (fun _ _ i _=>∃k:Nat,k≤s.size∧i=.int .i64 k∧Hid (zEv ((bytes s).drop k)=false)) (fun _ _ i _=>s.size - (intOf i).toNat);case atStart=>exact⟨0,by omega,rfl,Hv⟩
 case round=>
  obtain⟨k,hk,rfl,H⟩:=hrel;by_cases hlt:k<s.size
  ·have E:=hid (valid_step s k hlt)
   cases hc:zMj s[k].toNat with
   |true=>
    rcases valid_yes hc with h1|⟨h1,h2⟩|⟨h1,h2,h3,h4⟩
    all_goals
     go_wp2
     go_round
     case rel=>exact⟨k+1,by omega,by go_num,hid (by have:=H.out;rw[E.out,hc]at this;exact this)⟩
     case measure=>simp[intOf];omega
   |false=>
    obtain⟨h1,h2,h3⟩:=valid_no hc;rcases h3 with h3|h3
    all_goals
     go_wp2;go_ret2;exact zKv Hf.out (by omega) (Below.refl _ _)
  ·have:=H.out
   rw[zHf s k hlt]at this;cases this
set_option maxRecDepth 4000 in
theorem lines_ok(s:ByteArray)(w:World)(h:¬65536<s.size)(hv:zEv (bytes s)=true):Calls Tryz.prog 62 #[.string s] w (zHm (bytes s) w):=by
 obtain⟨i0,hi0,hz0,hz1,hz2⟩:=info_parts Tryz.strInfo;have Hi0:=hid hi0;have Hz0:=hid hz0;have Hz1:=hid hz1;have Hz2:=hid hz2;clear hi0 hz0 hz1 hz2;have Hf:=hid (lines_of_ok h hv);have Hv:Hid (zEv ((bytes s).drop 0)=true):=hid (by simpa using hv);clear hv;have d1:decide ((65536:Int)<s.size)=false:=by simp;omega
 go_enter Tryz.func62,Tryz.ntmps62;go_wp2;go_loop [2,3,4,5] (fun a b i _=>∃k:Nat,k≤s.size∧i=.int .i64 k∧a=.slice none 0 0∧b=.int .i64 0∧Hid (zEv ((bytes s).drop k)=true)) (fun _ _ i _=>s.size - (intOf i).toNat);case atStart=>exact⟨0,by omega,rfl,rfl,rfl,Hv⟩
 case round=>
  obtain⟨k,hk,rfl,rfl,rfl,H⟩:=hrel;by_cases hlt:k<s.size
  ·have E:=hid (valid_step s k hlt)
   cases hc:zMj s[k].toNat with
   |true=>
    rcases valid_yes hc with h1|⟨h1,h2⟩|⟨h1,h2,h3,h4⟩
    all_goals
     go_wp2
     go_round
     case rel=>exact⟨k+1,by omega,by go_num,rfl,rfl,hid (by have:=H.out;rw[E.out,hc]at this;exact this)⟩
     case measure=>simp[intOf];omega
   |false=>
    have:=H.out;rw[E.out,hc]at this;cases this
  ·clear H Hv
   have hk2:k=s.size:=by omega
   subst hk2;go_wp2
   go_loopw [6,7,8] (fun v st i wr=>∃(a k:Nat) (xs:List (List UInt8)),a≤k∧k≤s.size∧xs.length≤k∧i=.int .i64 k∧st=.int .i64 a ∧
     wr.ownsRow w.heap.size 9 1 v xs.length (xs.map strV)∧Below w.heap.size w wr∧Hid (zCs (bytes s)=xs++zEg (sub (bytes s) a k) ((bytes s).drop k))) (fun _ _ i _=>s.size - (intOf i).toNat)
   case atStart=>exact⟨0,0,[],by omega,by omega,by simp,rfl,rfl,World.ownsRow_nil _ _ _ _,Below.refl _ _,hid (by rw[sub_self,List.drop_zero];rfl)⟩
   case round=>
    obtain⟨a,k,xs,ha,hk,hx,rfl,rfl,hown,hb,H⟩:=hrel;have hsz:=hb.size;by_cases hlt:k<s.size
    ·cases hc:((s[k].toNat:Int)==10)with
     |true=>
      have E:=hid (linesGo_feed s a k hlt hc);go_wp2_with (first|(at_builtin;refine zCv _ rfl _ _ 52 rfl w.heap.size 9 i0 _ 1 16 Tryz.underlying52 Hi0.out Hz0.out Hz1.out Hz2.out rfl (by decide) _ xs.length (xs.map strV) rfl hown #[.string (s.extract a k)] rfl rfl (one_str _) (by omega) (by decide) hsz ?_;intro v1 w1 hown1 hb1))
      go_roundw
      case rel=>exact⟨k+1,k+1,xs++[sub (bytes s) a k],by omega,by omega,by simp;omega,by go_num,by go_num,by rw[ext_v,map_snoc]at hown1;simpa using hown1,hb.trans hb1,hid (app1 (by rw[H.out,E.out]))⟩
      case measure=>simp[intOf];omega
     |false=>
      have E:=hid (linesGo_else s a k ha hlt hc);go_wp2
      go_roundw
      case rel=>exact⟨a,k+1,xs,by omega,by omega,by omega,by go_num,rfl,hown,hb,hid (by rw[H.out,E.out])⟩
      case measure=>simp[intOf];omega
    ·have E:=hid (linesGo_end s a k (by omega) ha)
     by_cases hal:a<s.size
     ·go_wp2_with (first|(at_builtin;refine zCv _ rfl _ _ 52 rfl w.heap.size 9 i0 _ 1 16 Tryz.underlying52 Hi0.out Hz0.out Hz1.out Hz2.out rfl (by decide) _ xs.length (xs.map strV) rfl hown #[.string (s.extract a s.size)] rfl rfl (one_str _) (by omega) (by decide) hsz ?_;intro v1 w1 hown1 hb1))
      go_ret2;refine zMb Hf.out (n:=xs.length+1) (xs:=xs++[sub (bytes s) a s.size]) (by rw[H.out,E.out,if_pos hal]) (by simp) ?_ (hb.trans hb1);rw[ext_v,map_snoc]at hown1;exact hown1
     ·go_wp2
      go_ret2;exact zMb Hf.out (by rw[H.out,E.out,if_neg hal,yF]) rfl hown hb
theorem lines_any(s:ByteArray)(w:World):Calls Tryz.prog 62 #[.string s] w (zHm (bytes s) w):=by
 by_cases h:65536<s.size
 ·exact lines_limit s w h
 ·cases hv:zEv (bytes s)with
  |true=>exact lines_ok s w h hv
  |false=>exact lines_bad s w h hv
end Go.Proofs.YtdlgnhefpoalnaaGreatDoor
namespace Go.Proofs.YtdlgnhefpoalnaaGreatDoor
open Lib (hid)
open Go.RowKit
theorem zAh(l:List UInt8):(str l).toList=l:=by rw[Go.ByteArray.toList_eq];simp[str]
theorem list_step{α:Type}(l:List α)(k:Nat)(h:k<l.length):l.drop k=l[k] :: l.drop (k+1):=List.drop_eq_getElem_cons h
theorem slc_at{w:World}{B:Nat}{A:Option Addr}{n c:Nat}{xs:List (List UInt8)}(h:Slc w B 1 (.slice A n c) n (xs.map strV))(hn:n=xs.length){k:Nat}(hk:k<xs.length) :
  ∃g o,A=some ⟨g,o,none⟩∧g<B∧w.cell? ⟨g,o+k,none⟩=some (strV xs[k]):=by
 obtain⟨A', c', e,_,_,_,h⟩:=h;injection e with e1 e2 e3
 subst e1;obtain⟨g,o,rfl,hg,hc⟩:=h (by omega);exact⟨g,o,rfl,hg,hc k _ (by simp[hk])⟩
def digC(n:Nat):UInt8:=UInt8.ofNat (48+n)
theorem zJc(n:Nat)(h:n<10):(digC n).toNat=48+n:=by
 unfold digC;rw[UInt8.toNat_ofNat'];omega
def dec(n:Nat):List UInt8:=if n<10 then [digC n]else dec (n / 10)++[digC (n % 10)]
termination_by n
theorem zGg{n:Nat}(h:n<10):dec n=[digC n]:=by rw[dec,if_pos h]
theorem zLo{n:Nat}(h:¬n<10):dec n=dec (n / 10)++[digC (n % 10)]:=by rw[dec,if_neg h]
theorem numGo_snoc(b:UInt8):∀(l:List UInt8) (v:Int),numGo v (l++[b])=(numGo v l).bind fun u=>if zGv b.toNat then some (u*10+(b.toNat - 48))else none:=by
 intro l;induction l with
 |nil=>intro v;simp only[List.nil_append,numGo,Option.bind_some]
 |cons c r ih=>
  intro v;simp only[List.cons_append,numGo];split
  ·exact ih _
  ·rfl
theorem digC_digit{n:Nat}(h:n<10):zGv (digC n).toNat=true:=by
 rw[zJc n h];simp[zGv];omega
theorem numGo_dec(n:Nat):numGo 0 (dec n)=some (n:Int):=by
 induction n using Nat.strongRecOn with
 |ind n ih=>
  by_cases h:n<10
  ·rw[zGg h,numGo,digC_digit h,zJc n h]
   simp[numGo];omega
  ·have hm:n % 10<10:=Nat.mod_lt _ (by omega)
   rw[zLo h,numGo_snoc,ih (n / 10) (by omega),digC_digit hm,zJc _ hm];simp;omega
theorem zGw:∀(k n:Nat),n<10 ^ (k+1)→(dec n).length≤k+1:=by
 intro k;induction k with
 |zero=>intro n h;rw[zGg (by simpa using h)];simp
 |succ k ih=>
  intro n h;by_cases h9:n<10
  ·rw[zGg h9];simp
  ·rw[zLo h9]
   have:=ih (n / 10) (by rw[Nat.pow_succ]at h;omega);simp;omega
theorem dec_head(n:Nat)(h:0<n):∃c r,dec n=c :: r∧c.toNat≠48:=by
 induction n using Nat.strongRecOn with
 |ind n ih=>
  by_cases h9:n<10
  ·exact⟨digC n,[],zGg h9,by rw[zJc n h9];omega⟩
  ·obtain⟨c,r,e,hc⟩:=ih (n / 10) (by omega) (by omega)
   exact⟨c,r++[digC (n % 10)],by rw[zLo h9,e];rfl,hc⟩
theorem numForm_dec(n:Nat)(h:n≤9999999999):zIn (dec n)=true:=by
 have hl:=zGw 9 n (by omega);rcases Nat.eq_zero_or_pos n with h0|h0
 ·subst h0;rw[zGg (by omega)];rfl
 ·obtain⟨c,r,e,hc⟩:=dec_head n h0
  rw[e]at hl⊢;cases r with
  |nil=>rfl
  |cons d r=>
   simp only[zIn];rw[decide_eq_true (by simpa using hl)];have:((c.toNat:Int)==48)=false:=by simp;omega
   rw[this];rfl
theorem numOf_dec(n:Nat)(h:n≤9999999999):numOf (dec n)=some (n:Int):=by
 unfold numOf;rw[numForm_dec n h,if_pos rfl,numGo_dec]
theorem dig_ext:∀n:Nat,n<10→ByteArray.extract ⟨#[48,49,50,51,52,53,54,55,56,57]⟩ n (n+1)=str [digC n]:=by decide +kernel
theorem zIa(a b:List UInt8):str a++str b=str (a++b):=by
 apply ByteArray.ext;simp[str,ByteArray.data_append]
set_option maxRecDepth 4000 in
theorem zJv(n:Nat):∀(w:World),n≤9223372036854775807→Calls Tryz.prog 110 #[.int .i64 n] w fun e w' => e=.returned (.string (str (dec n)))∧w=w' := by
 induction n using Nat.strongRecOn with
 |ind n ih=>
  intro w hn;have IH:=hid ih;clear ih;have hd:=Nat.mod_lt n (show 0<10 by omega);by_cases h9:n<10
  ·have E:=hid (zGg h9)
   go_enter Tryz.func110,Tryz.ntmps110;go_wp2;go_ret;exact⟨by rw[E.out,Nat.mod_eq_of_lt h9,dig_ext n h9];rfl,rfl⟩
  ·have E:=hid (zLo h9)
   go_enter Tryz.func110,Tryz.ntmps110;go_wp2_with fail;rw[show((n:Int) / 10)=((n / 10:Nat):Int)from by omega];refine(IH.out (n / 10) (by omega) _ (by omega)).mono ?_;rintro e w' ⟨rfl,rfl⟩;rw[dig_ext (n % 10) hd];have hs:(str (dec (n / 10))).size≤19:=by rw[zBa];exact zGw 18 (n / 10) (by omega)
   have hs1:(str [digC (n % 10)]).size=1:=zBa _;go_wp2;go_ret;exact⟨by rw[E.out,zIa];rfl,rfl⟩
end Go.Proofs.YtdlgnhefpoalnaaGreatDoor
