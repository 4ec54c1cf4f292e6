/- Dialect Alpha, plain: what Format's walk takes of a valid router. No condition. -/
import Derived.Test.YthcnojmldldpeaaGreatDoorGad
namespace Go.Proofs.YthcnojmldldpeaaGreatDoor
open Lib (hid)
open Go.RowKit
def okRd(x:Rd):Prop:=(0≤x.metric∧x.metric≤16777215)∧(0≤x.tag∧x.tag≤65535)∧0≤x.typ∧x.typ≤2
theorem zKm{maps:List RMap}{into least most types:Int}{l:List Rd}(h:redE maps into least most types l=0)(h0:0≤least)(h1:most≤16777215)(h2:0≤types)(h3:types≤2):∀x∈l,okRd x:=fun x hx=>by
 have:=zDh (by decide) h x hx;unfold redF at this;obtain⟨g,_⟩:=zCu this;simp only[Bool.and_eq_true]at g;have a:=zAp g.1.1.2;have b:=zAp g.1.2;have c:=zAp g.2;refine⟨⟨by omega,by omega⟩,b,?_,by omega⟩;have:=c.1;omega
structure Fits (r:Rt):Prop where
 asn:0≤r.asn∧r.asn≤65535
 ifs:∀x∈r.ifs,zCs x=true∧x.fit
 lists:∀x∈r.lists,∀y∈x.rules,zEg y=true∧y.fit
 maps:∀x∈r.maps,∀y∈x.clauses,zCr y=true
 acls:∀x∈r.acls,∀y∈x.rules,zCp y=true∧y.fit
 nat:∀x∈r.nat,zBi x=true∧x.fit
 stat:∀x∈r.stat,zAv x.pa x.pl=true∧(1≤x.admin∧x.admin≤255)∧(0≤x.tag∧x.tag≤65535)∧x.fit
 ls:r.lsOn=true→(1≤r.lsAdmin∧r.lsAdmin≤255)∧(∀x∈r.ranges,(0≤x.area∧x.area≤255)∧zAv x.pa x.pl=true∧x.fit)∧∀x∈r.lsRed,okRd x
 dv:r.dvOn=true→(1≤r.dvAdmin∧r.dvAdmin≤255)∧∀x∈r.dvRed,okRd x
 pv:r.pvOn=true→(1≤r.ext∧r.ext≤255)∧(1≤r.int∧r.int≤255)∧(∀x∈r.nb,(1≤x.asn∧x.asn≤65535)∧x.fit)∧(∀x∈r.net,zAv x.pa x.pl=true∧x.fit)∧(∀x∈r.ag,zAv x.pa x.pl=true∧x.fit)∧(∀x∈r.cd,zAv x.pa x.pl=true∧zAv x.ia x.il=true∧x.fit)∧∀x∈r.pvRed,okRd x
theorem zJb{r:Rt}(h:zBp r=0)(hf:r.fit):Fits r:=by
 obtain⟨z1,z2,z3,z4,z5,z6,z7,z8,z9,z10,z11,z12⟩:=zIt h;obtain⟨f1,f2,f3,f4,f5,f6,f7,f8,f9,f10,f11,f12,f13,f14⟩:=hf;refine⟨zAp z2,zFn fun k hk=>⟨((ifs_ok z3).2 k hk).2.2.1,f1 _ (List.getElem_mem hk)⟩,?_,?_,?_,?_,?_,fun ho=>?_,fun ho=>?_,fun ho=>?_⟩
 ·intro x hx y hy
  have:=zFl (sub:=fun x:PList=>x.rules) (f:=prE) (show lsE (·.name) (·.rules.length) (fun x=>zAl prE x.rules) 16 r.lists=0 from z4) x hx y hy;exact⟨zEw this,f2 x hx y hy⟩
 ·intro x hx y hy
  have:=zFl (sub:=fun x:RMap=>x.clauses) (f:=clE r.lists) (show lsE (·.name) (·.clauses.length) (fun x=>zAl (clE r.lists) x.clauses) 8 r.maps=0 from z5) x hx y hy;unfold clE at this;split at this
  ·cases this
  ·exact zEw this
 ·intro x hx y hy
  have:=zFl (sub:=fun x:AList=>x.rules) (f:=ruE) (show lsE (·.name) (·.rules.length) (fun x=>zAl ruE x.rules) 16 r.acls=0 from z6) x hx y hy;exact⟨zEw this,f4 x hx y hy⟩
 ·intro x hx
  unfold natsE at z7;split at z7
  ·cases z7
  ·have:=zHg z7 x hx
   unfold natE at this;exact⟨(zCu this).1,f5 x hx⟩
 ·intro x hx
  have:=zDh (by decide) z9 x hx;unfold staF at this;have:=(zCu this).1;unfold zFf at this;simp only[Bool.and_eq_true]at this;exact⟨this.1.1.1.1,zAp this.1.2,zAp this.2,f6 x hx⟩
 ·unfold lnkE at z10
  rw[ho,if_pos rfl]at z10;obtain⟨hw,h⟩:=zCu z10;obtain⟨g1,g2⟩:=zBv h;refine⟨zAp hw,fun x hx=>?_,zKm g2 (by decide) (by decide) (by decide) (by decide)⟩;have:=zEw (zDh (by decide) g1 x hx);simp only[Bool.and_eq_true]at this;exact⟨zAp this.1,this.2,f7 x hx⟩
 ·unfold dvE at z11
  rw[ho,if_pos rfl]at z11;obtain⟨hw,h⟩:=zCu z11;exact⟨zAp hw,zKm (zBv h).2 (by decide) (by decide) (by decide) (by decide)⟩
 ·unfold pvE at z12
  rw[ho,if_pos rfl]at z12;obtain⟨hw,h⟩:=zCu z12;simp only[Bool.and_eq_true]at hw;obtain⟨g1,h⟩:=zBv h;obtain⟨g2,g3⟩:=zBv h;unfold origE at g2;obtain⟨g4,g2⟩:=zBv g2;obtain⟨g5,g6⟩:=zBv g2;refine⟨zAp hw.1.2,zAp hw.2,fun x hx=>?_,fun x hx=>⟨zEw (zDh (by decide) g4 x hx),f11 x hx⟩,fun x hx=>⟨zEw (zDh (by decide) g5 x hx),f12 x hx⟩,fun x hx=>?_,zKm g3 (by decide) (by decide) (by decide) (by decide)⟩
  ·have:=zDh (by decide) g1 x hx
   unfold nbF at this;have:=(zCu this).1;simp only[Bool.and_eq_true]at this;exact⟨zAp this.2,f10 x hx⟩
  ·have:=zDh (by decide) g6 x hx
   unfold cdF at this;have:=(zCu this).1;simp only[Bool.and_eq_true]at this;exact⟨this.1,this.2,f13 x hx⟩
theorem red_more{maps:List RMap}{into least most types:Int}{l:List Rd}(h:redE maps into least most types l=0)(h0:0≤least)(h1:most≤16777215)(h2:0≤types)(h3:types≤2):∀x∈l,(1≤x.frm∧x.frm≤5)∧okRd x:=fun x hx=>by
 refine⟨?_,zKm h h0 h1 h2 h3 x hx⟩;have:=zDh (by decide) h x hx;unfold redF at this;obtain⟨g,_⟩:=zCu this;simp only[Bool.and_eq_true]at g;exact zAp g.1.1.1.1
structure More (r:Rt):Prop where
 stat:∀x∈r.stat,cntB (zGb x)=1∧(1≤x.admin∧x.admin≤255)∧(0≤x.tag∧x.tag≤65535)∧x.fit
 ls:r.lsOn=true→(1≤r.lsAdmin∧r.lsAdmin≤255)∧(∀x∈r.ranges,(0≤x.area∧x.area≤255)∧x.fit)∧∀x∈r.lsRed,(1≤x.frm∧x.frm≤5)∧okRd x
 dv:r.dvOn=true→(1≤r.dvAdmin∧r.dvAdmin≤255)∧∀x∈r.dvRed,(1≤x.frm∧x.frm≤5)∧okRd x
 pv:r.pvOn=true→(1≤r.ext∧r.ext≤255)∧(1≤r.int∧r.int≤255)∧(∀x∈r.nb,(1≤x.asn∧x.asn≤65535)∧x.fit)∧(∀x∈r.net,x.fit)∧(∀x∈r.ag,x.fit)∧(∀x∈r.cd,x.fit)∧∀x∈r.pvRed,(1≤x.frm∧x.frm≤5)∧okRd x
theorem valid_more{r:Rt}(h:zBp r=0)(hf:r.fit):More r:=by
 have F:=zJb h hf;obtain⟨z1,z2,z3,z4,z5,z6,z7,z8,z9,z10,z11,z12⟩:=zIt h;refine⟨fun x hx=>?_,fun ho=>?_,fun ho=>?_,fun ho=>?_⟩
 ·obtain⟨_,a,t,f⟩:=F.stat x hx
  have:=zDh (by decide) z9 x hx;unfold staF at this;have:=(zCu this).1;unfold zFf at this;simp only[Bool.and_eq_true]at this;exact⟨by simpa using this.1.1.1.2,a,t,f⟩
 ·obtain⟨a,b,_⟩:=F.ls ho
  unfold lnkE at z10;rw[ho,if_pos rfl]at z10;exact⟨a,fun x hx=>⟨(b x hx).1,(b x hx).2.2⟩,red_more (zBv (zCu z10).2).2 (by decide) (by decide) (by decide) (by decide)⟩
 ·obtain⟨a,_⟩:=F.dv ho
  unfold dvE at z11;rw[ho,if_pos rfl]at z11;exact⟨a,red_more (zBv (zCu z11).2).2 (by decide) (by decide) (by decide) (by decide)⟩
 ·obtain⟨a,b,c,d,e,f,_⟩:=F.pv ho
  unfold pvE at z12;rw[ho,if_pos rfl]at z12;obtain⟨_,z⟩:=zBv (zCu z12).2;exact⟨a,b,c,fun x hx=>(d x hx).2,fun x hx=>(e x hx).2,hf.2.2.2.2.2.2.2.2.2.2.2.2.1,red_more (zBv z).2 (by decide) (by decide) (by decide) (by decide)⟩
theorem zBy{α:Type}(f:α→Ln):∀(l:List α) (k:Nat),l.map f=nthL (fun _ x=>[f x]) k l
 |[],_=>rfl
 |x :: r,k=>by rw[List.map_cons,nthL,zBy f r (k+1)];rfl
theorem zFg{α:Type}(f:α→List Ln):∀(l:List α) (k:Nat),l.flatMap f=nthL (fun _=>f) k l
 |[],_=>rfl
 |x :: r,k=>by rw[List.flatMap_cons,nthL,zFg f r (k+1)]
theorem zAz:textA []=[]:=rfl
end Go.Proofs.YthcnojmldldpeaaGreatDoor
