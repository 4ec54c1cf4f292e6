/- Dialect Beta, plain: what tokens mean depends on their texts alone, not on their lines. No condition. -/
import Derived.Test.YtdlgnhefpoalnaaGreatDoorHq
namespace Go.Proofs.YtdlgnhefpoalnaaGreatDoor
open Lib (hid)
open Go.RowKit
mutual
def Nd.bare:Nd→Nd
 |.mk _ w b k=>.mk 0 w b (bareL k)
def bareL:List Nd→List Nd
 |[]=>[]
 |n :: ns=>n.bare :: bareL ns
end
theorem zNp(a b:List Nd):bareL (a++b)=bareL a++bareL b:=by
 induction a with
 |nil=>simp only[bareL,List.nil_append]
 |cons x r ih=>simp only[bareL,List.cons_append,ih]
def txts(l:List Tk):List (List UInt8):=l.map Prod.snd
def zIp:Except Int (List Nd × List Tk)→Except Int (List Nd × List Tk)→Prop
 |.error _,.error _=>True
 |.ok a,.ok b=>bareL a.1=bareL b.1∧txts a.2=txts b.2
 |_,_=>False
def SameNd:Except Int (Nd × List Tk)→Except Int (Nd × List Tk)→Prop
 |.error _,.error _=>True
 |.ok a,.ok b=>a.1.bare=b.1.bare∧txts a.2=txts b.2
 |_,_=>False
theorem sameRead(la lb:Int)(n:Nat) :
  (∀(inner:Bool) (ta tb:List Tk) (na nb:List Nd),txts ta=txts tb→bareL na=bareL nb→zIp (seqN la n inner ta na) (seqN lb n inner tb nb)) ∧
  (∀(a b:Int) (ta tb:List Tk) (ws:List (List UInt8)),txts ta=txts tb→SameNd (nodeN la n a ta ws) (nodeN lb n b tb ws)):=by
 induction n with
 |zero=>exact⟨fun _ _ _ _ _ _ _=>by simp only[seqN,zIp],fun _ _ _ _ _ _=>by simp only[nodeN,SameNd]⟩
 |succ n ih=>
  obtain⟨i1,i2⟩:=ih
  constructor
  ·intro inner ta tb na nb h hn
   match ta,tb,h with
   |[],[],_=>
    cases inner
    ·simpa only[seqN,zIp,Bool.false_eq_true,if_false,and_true] using hn
    ·simp only[seqN,zIp,if_true]
   |x :: r,y :: s,h=>
    have hx:x.2=y.2∧txts r=txts s:=by simpa only[txts,List.map_cons,List.cons.injEq] using h
    simp only[seqN,←hx.1];split
    ·exact⟨hn,hx.2⟩
    ·have h2:=i2 x.1 y.1 (x :: r) (y :: s) [] h
     revert h2
     cases nodeN la n x.1 (x :: r) []with
     |error e=>cases nodeN lb n y.1 (y :: s) []with
      |error e' => intro _;simp only[zIp]
      |ok v=>intro h2;simp only[SameNd]at h2
     |ok u=>cases nodeN lb n y.1 (y :: s) []with
      |error e' => intro h2;simp only[SameNd]at h2
      |ok v=>
       intro h2;exact i1 inner u.2 v.2 _ _ h2.2 (by rw[zNp,zNp,hn];simp only[bareL,h2.1])
  ·intro a b ta tb ws h
   match ta,tb,h with
   |[],[],_=>simp only[nodeN,SameNd]
   |x :: r,y :: s,h=>
    have hx:x.2=y.2∧txts r=txts s:=by simpa only[txts,List.map_cons,List.cons.injEq] using h
    simp only[nodeN,←hx.1];split
    ·exact i2 a b r s _ hx.2
    ·split
     ·simp only[SameNd]
     ·split
      ·exact⟨by simp only[Nd.bare,bareL],hx.2⟩
      ·have h2:=i1 true r s [] [] hx.2 rfl
       revert h2
       cases seqN la n true r []with
       |error e=>cases seqN lb n true s []with
        |error e' => intro _;simp only[SameNd]
        |ok v=>intro h2;simp only[zIp]at h2
       |ok u=>cases seqN lb n true s []with
        |error e' => intro h2;simp only[zIp]at h2
        |ok v=>intro h2;exact⟨by simp only[Nd.bare,h2.1],h2.2⟩
def errO(o:Option (Int × Int)):Option Int:=o.map Prod.snd
mutual
theorem zJx(f:Fm):∀(ns ms:List Nd) (keys:List (List UInt8)) (r:Rt),bareL ns=bareL ms →
  (readN f keys ns r).1=(readN f keys ms r).1∧errO (readN f keys ns r).2=errO (readN f keys ms r).2
 |[],[],_,_,_=>⟨rfl,rfl⟩
 |[],m :: ms,_,_,h=>by simp only[bareL]at h;cases h
 |n :: ns,[],_,_,h=>by simp only[bareL]at h;cases h
 |n :: ns,m :: ms,keys,r,h=>by
  have hb:n.bare=m.bare∧bareL ns=bareL ms:=by simpa only[bareL,List.cons.injEq] using h
  have h1:=readOne_bare f n m keys r hb.1;simp only[readN]
  revert h1
  match zBo f keys n r,zBo f keys m r with
  |(a,k,none),(a', k', none)=>
   intro h1;obtain⟨h1,h2,_⟩:=h1;simp only at h1 h2;subst h1 h2;exact zJx f ns ms k a hb.2
  |(a,k,none),(a', k', some e)=>intro h1;simp only[errO,Option.map_none,Option.map_some]at h1;cases h1.2.2
  |(a,k,some e),(a', k', none)=>intro h1;simp only[errO,Option.map_none,Option.map_some]at h1;cases h1.2.2
  |(a,k,some e),(a', k', some e')=>intro h1;exact⟨h1.1,h1.2.2⟩
theorem readOne_bare(f:Fm):∀(n m:Nd) (keys:List (List UInt8)) (r:Rt),n.bare=m.bare →
  (zBo f keys n r).1=(zBo f keys m r).1∧(zBo f keys n r).2.1=(zBo f keys m r).2.1∧errO (zBo f keys n r).2.2=errO (zBo f keys m r).2.2
 |.mk ln w b k,.mk lm w' b' k', keys,r,h=>by
  simp only[Nd.bare,Nd.mk.injEq,true_and]at h;obtain⟨rfl,rfl,hk⟩:=h;simp only[zBo]
  match fmS f b r ⟨w,false⟩with
  |(key,inner,r', p)=>
   simp only;split
   ·exact⟨rfl,rfl,rfl⟩
   ·split
    ·exact⟨rfl,rfl,rfl⟩
    ·cases inner with
     |none=>exact⟨rfl,rfl,rfl⟩
     |some g=>
      have h1:=zJx g k k' [] r' hk;exact⟨h1.1,rfl,h1.2⟩
end
end Go.Proofs.YtdlgnhefpoalnaaGreatDoor
