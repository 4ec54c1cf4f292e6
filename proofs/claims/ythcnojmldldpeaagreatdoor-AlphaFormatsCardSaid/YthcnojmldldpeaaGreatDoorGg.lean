/- Plain facts on the text of an address: its parts between dots, their numbers; and its written form. No condition. -/
import Derived.Test.YthcnojmldldpeaaGreatDoorGe
import Derived.Test.YthcnojmldldpeaaGreatDoorGf
import Derived.Lib.Split
import Derived.Lib.ItoaNum
namespace Go.Proofs.YthcnojmldldpeaaGreatDoor
open Lib (hid)
open Go.RowKit
def dotGo:List UInt8→List UInt8→List (List UInt8)
 |cur,[]=>[cur]
 |cur,c :: r=>if(c.toNat:Int)=46 then cur :: dotGo [] r else dotGo (cur++[c]) r
def dots(l:List UInt8):List (List UInt8):=dotGo [] l
def oct(a v:Nat):Nat:=a*256 % 4294967296+v
def octs:List (List UInt8)→Nat→Option Nat
 |[],a=>some a
 |p :: r,a=>match numIn p 0 255 with
  |none=>none
  |some v=>octs r (oct a v.toNat)
def zDa(l:List UInt8):Option Nat:=if(dots l).length=4 then octs (dots l) 0 else none
theorem numIn_bd{l:List UInt8}{lo hi v:Int}(h:numIn l lo hi=some v):lo≤v∧v≤hi:=by
 unfold numIn at h;split at h
 ·cases h
 ·split at h
  ·next hh=>cases h;exact hh
  ·cases h
theorem oct_lt{a v:Nat}(h:v≤255):oct a v<4294967296:=by unfold oct;omega
theorem i_oct{a v:Nat}(_ha:a<4294967296)(h:v≤255):bits .or .u32 ((a:Int)*256 % 4294967296) (v:Int)=(oct a v:Int):=by
 have e:((a:Int)*256 % 4294967296)=((a*256 % 4294967296:Nat):Int):=by omega
 rw[e,u32_or_nat _ _ (by omega) (by omega)]
 congr 1
 unfold oct;obtain⟨k,hk⟩:∃k,a*256 % 4294967296=2 ^ 8*k:=⟨a*256 % 4294967296 / 256,by omega⟩;rw[hk,Nat.two_pow_add_eq_or_of_lt (by omega)]
theorem octs_lt:∀(ps:List (List UInt8)) (a r:Nat),a<4294967296→octs ps a=some r→r<4294967296:=by
 intro ps;induction ps with
 |nil=>intro a r ha h;simp only[octs,Option.some.injEq]at h;omega
 |cons p t ih=>
  intro a r _ h;simp only[octs]at h;split at h
  ·cases h
  ·next v hv=>
   have:=numIn_bd hv;exact ih _ _ (oct_lt (by omega)) h
theorem zHc{l:List UInt8}{r:Nat}(h:zDa l=some r):r<4294967296:=by
 unfold zDa at h;split at h
 ·exact octs_lt _ _ _ (by omega) h
 ·cases h
theorem zHm{l:List UInt8}(h:∀b∈l,(b.toNat:Int)≠46):Lib.index l [46] = -1:=by
 apply Lib.index_none;intro j hj;unfold Lib.occAt;cases hd:l.drop j with
 |nil=>rfl
 |cons b r=>
  have hb:b∈l:=List.mem_of_mem_drop (by rw[hd];simp);have:(46:UInt8)≠b:=fun e=>h b hb (by rw[←e];rfl)
  simp[List.isPrefixOf,this]
theorem zIv{a b:List UInt8}(h:∀x∈a,(x.toNat:Int)≠46):Lib.index (a++46 :: b) [46]=a.length:=by
 apply Lib.index_first (by simp)
 ·unfold Lib.occAt;rw[List.drop_left];rfl
 ·intro j hj
  unfold Lib.occAt;rw[List.drop_append_of_le_length (by omega)];cases hd:a.drop j with
  |nil=>have:=congrArg List.length hd;simp at this;omega
  |cons x r=>
   have hx:x∈a:=List.mem_of_mem_drop (by rw[hd];simp);have:(46:UInt8)≠x:=fun e=>h x hx (by rw[←e];rfl)
   simp[List.isPrefixOf,this]
theorem dotGo_none:∀(l cur:List UInt8),(∀b∈l,(b.toNat:Int)≠46)→dotGo cur l=[cur++l]:=by
 intro l;induction l with
 |nil=>intro cur _;simp[dotGo]
 |cons c r ih=>
  intro cur h;rw[dotGo,if_neg (h c (by simp)),ih _ (fun b hb=>h b (by simp[hb]))];simp
theorem dotGo_hit(b:List UInt8):∀(a cur:List UInt8),(∀x∈a,(x.toNat:Int)≠46)→dotGo cur (a++46 :: b)=(cur++a) :: dotGo [] b:=by
 intro a;induction a with
 |nil=>intro cur _;simp[dotGo]
 |cons c r ih=>
  intro cur h;rw[List.cons_append,dotGo,if_neg (h c (by simp)),ih _ (fun x hx=>h x (by simp[hx]))];simp
theorem first_dot:∀(l:List UInt8),(∀b∈l,(b.toNat:Int)≠46)∨∃a b,l=a++46 :: b∧∀x∈a,(x.toNat:Int)≠46:=by
 intro l;induction l with
 |nil=>exact .inl (by simp)
 |cons c r ih=>
  by_cases hc:(c.toNat:Int)=46
  ·refine .inr ⟨[],r,?_,by simp⟩
   have:c=46:=by apply UInt8.toNat_inj.1;show c.toNat=46;omega
   rw[this];rfl
  ·rcases ih with h|⟨a,b,rfl,h⟩
   ·exact .inl (fun x hx=>by rcases List.mem_cons.1 hx with rfl|hx;exact hc;exact h x hx)
   ·exact .inr ⟨c :: a,b,rfl,fun x hx=>by rcases List.mem_cons.1 hx with rfl|hx;exact hc;exact h x hx⟩
theorem drop_dot(a b:List UInt8):(a++46 :: b).drop (a.length+[(46:UInt8)].length)=b:=by
 rw[show a.length+[(46:UInt8)].length=a.length+1 from rfl,←List.drop_drop,List.drop_left];rfl
theorem split_dots:∀(n:Nat) (l:List UInt8),l.length≤n→Lib.splitK [46] 0 (Lib.count l [46]) l=dots l:=by
 intro n;induction n with
 |zero=>
  intro l h;have:l=[]:=List.eq_nil_of_length_eq_zero (by omega);subst this;decide
 |succ n ih=>
  intro l h;rcases first_dot l with h0|⟨a,b,rfl,ha⟩
  ·rw[Lib.count_miss (zHm h0)]
   unfold dots;rw[dotGo_none l [] h0];rfl
  ·have hi:=zIv (b:=b) ha
   rw[Lib.count_hit (by simp) hi];have hd:=drop_dot a b;rw[hd,Nat.add_comm 1,Lib.splitK,hi,if_neg (by simp),Int.toNat_natCast,hd,Nat.add_zero,List.take_left,ih b (by simp at h;omega)];unfold dots;rw[dotGo_hit b a [] ha];rfl
theorem count_dots(l:List UInt8):Lib.count l [46]+1=(dots l).length:=by
 have h:∀(n:Nat) (l:List UInt8),l.length≤n→Lib.count l [46]+1=(dots l).length:=by
  intro n;induction n with
  |zero=>
   intro l h;have:l=[]:=List.eq_nil_of_length_eq_zero (by omega);subst this;decide
  |succ n ih=>
   intro l h;rcases first_dot l with h0|⟨a,b,rfl,ha⟩
   ·rw[Lib.count_miss (zHm h0)]
    unfold dots;rw[dotGo_none l [] h0];rfl
   ·have hi:=zIv (b:=b) ha
    rw[Lib.count_hit (by simp) hi];have hd:=drop_dot a b;have:=ih b (by simp at h;omega);unfold dots at this⊢;rw[hd,dotGo_hit b a [] ha,List.length_cons];omega
 exact h _ l (Nat.le_refl _)
theorem dec_lib(u:Nat):Lib.decDigits u=dec u:=by
 induction u using Nat.strongRecOn with
 |ind u ih=>
  rw[Lib.decDigits];split
  ·next h=>rw[zGv h];rfl
  ·next h=>rw[dec_big h,ih (u / 10) (by omega)];rfl
def byteA(a k:Nat):Nat:=a / 2 ^ (24 - 8*k) % 256
def fmtTo(a:Nat):Nat→List UInt8
 |0=>[]
 |k+1=>fmtTo a k++(if k=0 then []else [46])++dec (byteA a k)
def fmtA(a:Nat):List UInt8:=fmtTo a 4
theorem zFj(a k:Nat):byteA a k<256:=Nat.mod_lt _ (by omega)
theorem dec3{n:Nat}(h:n<256):(dec n).length≤3:=zGy 2 n (by omega)
theorem zHb(a:Nat):∀k,(fmtTo a k).length≤4*k:=by
 intro k;induction k with
 |zero=>simp[fmtTo]
 |succ k ih=>
  have h3:=dec3 (zFj a k);simp only[fmtTo,List.length_append];have:(if k=0 then []else [(46:UInt8)]).length≤1:=by split<;>simp
  omega
end Go.Proofs.YthcnojmldldpeaaGreatDoor
