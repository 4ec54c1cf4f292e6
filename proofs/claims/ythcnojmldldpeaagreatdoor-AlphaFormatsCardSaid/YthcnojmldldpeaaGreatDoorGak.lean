/- Dialect Alpha, plain: a valid router's text is short. No condition. -/
import Derived.Test.YthcnojmldldpeaaGreatDoorGad
namespace Go.Proofs.YthcnojmldldpeaaGreatDoor
open Lib (hid)
open Go.RowKit
def WsA(n:Nat)(l:List (List UInt8)):Prop:=l.length≤n∧∀x∈l,x.length≤40
def LsA(n:Nat)(l:List Ln):Prop:=l.length≤n∧∀x∈l,WsA 20 x.2
section
variable {n m k : Nat} {a b : List (List UInt8)} {la lb : List Ln}
theorem WsA.nil:WsA 0 []:=⟨Nat.le_refl _,fun _ h=>by cases h⟩
theorem WsA.cons{x:List UInt8}(h:x.length≤40)(h' : WsA n a):WsA (n+1) (x :: a):=⟨Nat.succ_le_succ h'.1,List.forall_mem_cons.2 ⟨h,h'.2⟩⟩
theorem WsA.app(h:WsA n a)(h' : WsA m b):WsA (n+m) (a++b):=⟨by rw[List.length_append];exact Nat.add_le_add h.1 h'.1,fun x hx=>(List.mem_append.1 hx).elim (h.2 x) (h'.2 x)⟩
theorem WsA.opt{c:Bool}(h:c=true→WsA n a):WsA n (optL c a):=by
 cases c with
 |true=>exact h rfl
 |false=>exact⟨Nat.zero_le _,fun _ h=>by cases h⟩
theorem WsA.to(h:WsA n a)(hn:n≤m):WsA m a:=⟨Nat.le_trans h.1 hn,h.2⟩
theorem LsA.nil:LsA 0 []:=⟨Nat.le_refl _,fun _ h=>by cases h⟩
theorem LsA.cons{x:Ln}(h:WsA n x.2)(hn:n≤20)(h' : LsA m la):LsA (m+1) (x :: la):=⟨Nat.succ_le_succ h'.1,List.forall_mem_cons.2 ⟨h.to hn,h'.2⟩⟩
theorem LsA.one{x:Ln}(h:WsA n x.2)(hn:n≤20):LsA 1 [x]:=LsA.cons h hn .nil
theorem LsA.app(h:LsA n la)(h' : LsA m lb):LsA (n+m) (la++lb):=⟨by rw[List.length_append];exact Nat.add_le_add h.1 h'.1,fun x hx=>(List.mem_append.1 hx).elim (h.2 x) (h'.2 x)⟩
theorem LsA.opt{c:Bool}(h:c=true→LsA n la):LsA n (optL c la):=by
 cases c with
 |true=>exact h rfl
 |false=>exact⟨Nat.zero_le _,fun _ h=>by cases h⟩
theorem LsA.to(h:LsA n la)(hn:n≤m):LsA m la:=⟨Nat.le_trans h.1 hn,h.2⟩
theorem LsA.idx{α:Type}{f:Nat→α→List Ln}:∀{l:List α} {k m:Nat},l.length≤m→(∀x∈l,∀j,j<k+m→LsA n (f j x))→LsA (m*n) (nthL f k l)
 |[],_,m,_,_=>LsA.nil.to (Nat.zero_le _)
 |x :: r,k,m,hm,h=>by
  obtain⟨j,rfl⟩:∃j,m=j+1:=⟨m - 1,by simp only[List.length_cons]at hm;omega⟩;rw[nthL];exact((h x List.mem_cons_self k (by omega)).app (LsA.idx (k:=k+1) (m:=j) (by simp only[List.length_cons]at hm;omega) fun y hy i hi=>h y (List.mem_cons_of_mem _ hy) i (by omega))).to (by rw[Nat.add_mul];omega)
theorem LsA.flat{α:Type}{f:α→List Ln}{l:List α}(hm:l.length≤m)(h:∀x∈l,LsA n (f x)):LsA (m*n) (l.flatMap f):=by
 have e:∀(l:List α) k,nthL (fun _ x=>f x) k l=l.flatMap f:=by
  intro l;induction l with
  |nil=>intro k;rfl
  |cons x r ih=>intro k;rw[nthL,ih,List.flatMap_cons]
 rw[←e l 0];exact LsA.idx hm fun x hx _ _=>h x hx
theorem LsA.map{α:Type}{f:α→Ln}{l:List α}(hm:l.length≤m)(h:∀x∈l,WsA n (f x).2)(hn:n≤20):LsA m (l.map f):=⟨by rw[List.length_map];exact hm,fun x hx=>by obtain⟨y,hy,rfl⟩:=List.mem_map.1 hx;exact(h y hy).to hn⟩
theorem textA_sh:∀{l:List Ln} {n:Nat},LsA n l→(textA l).length≤830*n
 |[],_,_=>Nat.zero_le _
 |x :: r,n,h=>by
  obtain⟨j,rfl⟩:∃j,n=j+1:=⟨n - 1,by have:=h.1;simp only[List.length_cons]at this;omega⟩;have h1:=textA_sh (l:=r) (n:=j) ⟨by have:=h.1;simp only[List.length_cons]at this;omega,fun y hy=>h.2 y (List.mem_cons_of_mem _ hy)⟩;obtain⟨h2,h3⟩:=h.2 x List.mem_cons_self;have h4:=joinW_sh x.2 h3
  have h5:(lnW x).length≤830:=by
   unfold lnW;have:(if x.1 then [32]else([]:List UInt8)).length≤1:=by split<;>simp
   simp only[List.length_append,List.length_cons,List.length_nil]at this⊢;omega
  rw[zDn,List.length_append];omega
end
theorem ws1{x:List UInt8}(h:x.length≤40):WsA 1 [x]:=.cons h .nil
theorem ws2{x y:List UInt8}(h:x.length≤40)(h' : y.length≤40):WsA 2 [x,y]:=.cons h (ws1 h')
theorem ws3{x y z:List UInt8}(h:x.length≤40)(h' : y.length≤40)(h2:z.length≤40):WsA 3 [x,y,z]:=.cons h (ws2 h' h2)
theorem ws4{x y z u:List UInt8}(h:x.length≤40)(h' : y.length≤40)(h2:z.length≤40)(h3:u.length≤40):WsA 4 [x,y,z,u]:=.cons h (ws3 h' h2 h3)
theorem lo1{c i:Bool}{ws:List (List UInt8)}{n:Nat}(h:c=true→WsA n ws)(hn:n≤20:=by decide):LsA 1 (optL c [(i,ws)]):=.opt fun hc=>.one (h hc) hn
theorem sh_yes(b:Bool):(yesW b).length≤40:=by cases b<;>decide
theorem sh_srcT(n:Int):(srcT n).length≤40:=by unfold srcT;(repeat' split)<;>decide
theorem sh_nth{k:Nat}(hk:k<0+16):(nthW k).length≤40:=zDc (by omega)
theorem sh_protA{n:Int}(h:n≤255):(protA n).length≤40:=by
 unfold protA;split
 ·decide
 ·exact sh_prot h
theorem sh_wildT(a m:Nat):(wildT a m).length≤40:=by
 unfold wildT;split
 ·decide
 ·exact sh_wild a m
theorem la_if{x:If}(hx:zCs x=true)(hn:nameB x.name=true)(hi:(x.inn=[]∨nameB x.inn=true)∧(x.out=[]∨nameB x.out=true)):LsA 20 (ifAs x):=by
 obtain⟨k1,k2,k3,k4,k5,k6,k7⟩:=ifc_ok hx
 have h8:LsA 1 (ifA 8 x):=by
  show LsA 1 (sideA x.side);unfold sideA;split
  ·exact .one (ws2 (sL rfl) (sL rfl)) (by decide)
  ·exact lo1 fun _=>ws2 (sL rfl) (sL rfl)
 exact((LsA.one (ws2 (sL rfl) (zEf hn)) (by decide)).app ((lo1 fun _=>ws2 (sL rfl) (Nat.le_trans (sh_host _ _) (by decide))).app ((lo1 fun _=>ws2 (sL rfl) (zDc (by omega))).app ((lo1 fun _=>ws2 (sL rfl) (sL rfl)).app ((lo1 fun h=>WsA.cons (sL rfl) (ws4 (sL rfl) (zDc (by have:=k6 h;omega)) (sL rfl) (zDc (by have:=k6 h;omega)))).app ((lo1 fun _=>ws1 (sL rfl)).app ((lo1 fun h=>ws2 (sL rfl) (zEf (nm_of hi.1 h))).app ((lo1 fun h=>ws2 (sL rfl) (zEf (nm_of hi.2 h))).app h8)))))))).to (by decide)
theorem la_cl{x:Cl}(hx:zCr x=true)(hl:x.list=[]∨nameB x.list=true):LsA 6 (clAs x):=by
 obtain⟨k1,k2,k3,k4,k5⟩:=cl_ok hx;exact((lo1 fun h=>ws3 (sL rfl) (sL rfl) (zEf (nm_of hl h))).app ((lo1 fun h=>ws3 (sL rfl) (sL rfl) (zDc (by omega))).app ((lo1 fun h=>ws3 (sL rfl) (sL rfl) (zDc (by omega))).app ((lo1 fun h=>ws3 (sL rfl) (sL rfl) (zDc (by omega))).app ((lo1 fun h=>ws3 (sL rfl) (sL rfl) (zDc (by omega))).app (lo1 fun h=>ws2 (sL rfl) (zDc (by omega)))))))).to (by decide)
theorem wa_pr{x:PRule}(hx:zEg x=true){n:List UInt8}(hn:nameB n=true){k:Nat}(hk:k<0+16):WsA 9 (prA n k x).2:=by
 obtain⟨v,h1,h2,h3⟩:=pr_ok hx;show WsA (5+(2+2)) (_++(_++_));exact(WsA.cons (sL rfl) (ws4 (zEf hn) (sh_nth hk) (sh_yes _) (sh_pfx _ _))).app ((WsA.opt fun _=>ws2 (sL rfl) (zDc (by omega))).app (WsA.opt fun _=>ws2 (sL rfl) (zDc (by omega))))
theorem wa_ru{x:Ru}(hx:zCp x=true){n:List UInt8}(hn:nameB n=true){k:Nat}(hk:k<0+16):WsA 11 (ruA n k x).2:=by
 obtain⟨k1,k2,k3,k4,k5⟩:=ru_ok hx;show WsA (7+(2+2)) (_++(_++_));exact(WsA.cons (sL rfl) (WsA.cons (zEf hn) (WsA.cons (sh_nth hk) (ws4 (sh_yes _) (sh_protA k1.2) (sh_wildT _ _) (sh_wildT _ _))))).app ((WsA.opt fun _=>ws2 (sL rfl) (sh_port (by omega) (by omega))).app (WsA.opt fun _=>ws2 (sL rfl) (sh_port (by omega) (by omega))))
theorem wa_tr{x:Tr}(hx:zBi x=true)(hl:x.kind=2→nameB x.list=true):WsA 20 (trA x).2:=by
 show WsA 20 ([110,97,116] :: trW x);unfold trW;unfold zBi at hx;split
 ·exact(WsA.cons (sL rfl) (ws3 (sL rfl) (zJs _) (zJs _))).to (by decide)
 ·rename_i h1
  split
  ·rename_i h2
   exact(WsA.cons (sL rfl) (ws4 (sL rfl) (zEf (hl (by simpa using h2))) (zJs _) (zJs _))).to (by decide)
  ·rename_i h2
   rw[if_neg (by simpa using h1),if_neg (by simpa using h2)]at hx;split at hx
   ·simp only[Bool.and_eq_true,Bool.or_eq_true,beq_iff_eq]at hx
    obtain⟨⟨⟨⟨⟨⟨⟨_,_⟩,h3⟩,h4⟩,h5⟩,_⟩,_⟩,_⟩:=hx;have i1:=zAp h4;have i2:=zAp h5;exact(WsA.cons (sL rfl) (WsA.cons (sL rfl) (WsA.cons (sh_prot (by omega)) (ws4 (zJs _) (zDc (by omega)) (zJs _) (zDc (by omega)))))).to (by decide)
   ·cases hx
theorem wa_sr{x:Sr}(hi:x.iface=[]∨nameB x.iface=true)(ha:1≤x.admin∧x.admin≤255)(ht:0≤x.tag∧x.tag≤65535):WsA 8 (srA x).2:=by
 refine(ws2 (sL rfl) (sh_pfx _ _)).app (n:=2) (m:=6) (WsA.app (n:=2) (m:=4) ?_ ((WsA.opt fun _=>ws2 (sL rfl) (zDc (by omega))).app (WsA.opt fun _=>ws2 (sL rfl) (zDc (by omega)))));unfold goalA;split
 ·exact ws2 (sL rfl) (zJs _)
 split
 ·rename_i h;exact ws2 (sL rfl) (zEf (nm_of hi h))
 ·exact(ws1 (sL rfl)).to (by decide)
theorem la_rd{maps:List RMap}{into least most types:Int}{l:List Rd}(h:redE maps into least most types l=0)(hv:∀x∈maps,nameB x.name=true)(h1:most≤16777215)(h2:types≤2):LsA 16 (l.map rdA):=LsA.map (n:=10) (red_len h) (fun x hx=>by
 obtain⟨k,hk,rfl⟩:=List.getElem_of_mem hx;obtain⟨_,m,t,y,n⟩:=redA_ok ((zFi (by decide) h).2 k hk).1 hv
 exact(ws4 (sL rfl) (sh_srcT _) (sL rfl) (zDc (by omega))).app ((WsA.opt fun _=>ws2 (sL rfl) (zDc (by omega))).app ((WsA.opt fun h=>ws2 (sL rfl) (zEf (nm_of n h))).app (WsA.opt fun _=>ws2 (sL rfl) (zDc (by omega)))))) (by decide)
theorem valid_ls{r:Rt}(h:zBp r=0):LsA 100000 (fmtL r):=by
 have hS:=zGz h;obtain⟨z1,z2,z3,z4,z5,z6,z7,z8,z9,z10,z11,z12⟩:=zIt h;have vI:∀x∈r.ifs,nameB x.name=true:=zFn fun k hk=>((ifs_ok z3).2 k hk).1
 have vL:∀x∈r.lists,nameB x.name=true:=zFn fun k hk=>((ls_ok z4).2 k hk).1
 have vM:∀x∈r.maps,nameB x.name=true:=zFn fun k hk=>((ls_ok z5).2 k hk).1
 have vA:∀x∈r.acls,nameB x.name=true:=zFn fun k hk=>((ls_ok z6).2 k hk).1
 have aD:=zAp z2;have l1:LsA 2 (headA r):=.cons (ws2 (sL rfl) (zEf z1)) (by decide) (lo1 fun _=>ws2 (sL rfl) (zDc (by omega)));have l2:LsA (16*20) (ifsA r):=.flat hS.ifs (zFn fun k hk=>la_if ((ifs_ok z3).2 k hk).2.2.1 ((ifs_ok z3).2 k hk).1 (two_has vA (zHg z8 _ (List.getElem_mem hk))));have l3:LsA (16*(16*1)) (r.lists.flatMap plA):=.flat hS.lists.1 fun x hx=>.idx (hS.lists.2 x hx) fun y hy j hj=>.one (wa_pr (zEw (zFl (sub:=fun x:PList=>x.rules) (f:=prE) (show lsE (·.name) (·.rules.length) (fun x=>zAl prE x.rules) 16 r.lists=0 from z4) x hx y hy)) (vL x hx) hj) (by decide)
 have l4:LsA (16*(16*7)) (r.maps.flatMap mpA):=.flat hS.maps.1 fun x hx=>.idx (hS.maps.2 x hx) fun y hy j hj=>by
  refine .cons (n:=4) (m:=6) (ws4 (sL rfl) (zEf (vM x hx)) (sh_nth hj) (sh_yes _)) (by decide) ?_;have:=zFl (sub:=fun x:RMap=>x.clauses) (f:=clE r.lists) (show lsE (·.name) (·.clauses.length) (fun x=>zAl (clE r.lists) x.clauses) 8 r.maps=0 from z5) x hx y hy;unfold clE at this;split at this
  ·cases this
  ·rename_i h7
   refine la_cl (zEw this) (zKh vL ?_);simpa [zAu] using h7
 have l5:LsA (16*(16*1)) (r.acls.flatMap acA):=.flat hS.acls.1 fun x hx=>.idx (hS.acls.2 x hx) fun y hy j hj=>.one (wa_ru (zEw (zFl (sub:=fun x:AList=>x.rules) (f:=ruE) (show lsE (·.name) (·.rules.length) (fun x=>zAl ruE x.rules) 16 r.acls=0 from z6) x hx y hy)) (vA x hx) hj) (by decide)
 have l6:LsA 16 (r.nat.map trA):=LsA.map (n:=20) hS.nat (fun x hx=>by
  unfold natsE at z7;split at z7
  ·cases z7
  ·obtain⟨g1,g2⟩:=natR_ok (zHg z7 x hx) vA
   exact wa_tr g1 g2) (by decide)
 have l7:LsA 16 (r.stat.map srA):=LsA.map (n:=8) hS.stat (fun x hx=>by
  have h3:=zDh (by decide) z9 x hx;unfold staF at h3;obtain⟨h4,h3⟩:=zCu h3;unfold zFf at h4;simp only[Bool.and_eq_true]at h4;refine wa_sr ?_ (zAp h4.1.2) (zAp h4.2);cases hn:x.iface with
  |nil=>exact .inl rfl
  |cons u t=>
   rw[hn]at h3;simp only[List.isEmpty_cons,Bool.false_eq_true,if_false]at h3;refine .inr (name_in vI fun h6=>?_);rw[if_pos h6]at h3
   cases h3) (by decide)
 have l8:LsA 100 (lsA r):=.opt fun ho=>by
  unfold lnkE at z10;rw[ho,if_pos rfl]at z10;obtain⟨hw,h⟩:=zCu z10;obtain⟨g1,g2⟩:=zBv h;have A:=zAp hw;refine(LsA.cons (ws2 (sL rfl) (sL rfl)) (by decide) (.cons (ws2 (sL rfl) (zDc (by omega))) (by decide) (.app (n:=16) (LsA.map (n:=3) hS.ranges (fun x hx=>?_) (by decide)) (la_rd g2 vM (by decide) (by decide))))).to (by decide);have:=zEw (zDh (by decide) g1 x hx);simp only[Bool.and_eq_true]at this;have B:=zAp this.1;exact ws3 (sL rfl) (zDc (by omega)) (sh_pfx _ _)
 have l9:LsA 100 (dvA r):=.opt fun ho=>by
  unfold dvE at z11;rw[ho,if_pos rfl]at z11;obtain⟨hw,h⟩:=zCu z11;obtain⟨g1,g2⟩:=zBv h;have A:=zAp hw;obtain⟨n1,n2⟩:=two_has vL g1;exact(LsA.cons (ws2 (sL rfl) (sL rfl)) (by decide) (.cons (ws2 (sL rfl) (zDc (by omega))) (by decide) ((lo1 fun h=>ws3 (sL rfl) (sL rfl) (zEf (nm_of n1 h))).app ((lo1 fun h=>ws3 (sL rfl) (sL rfl) (zEf (nm_of n2 h))).app (la_rd g2 vM (by decide) (by decide)))))).to (by decide)
 have l10:LsA 100 (pvA r):=.opt fun ho=>by
  unfold pvE at z12;rw[ho,if_pos rfl]at z12;obtain⟨hw,h⟩:=zCu z12;simp only[Bool.and_eq_true]at hw;obtain⟨g1,h⟩:=zBv h;have A:=zAp hw.1.2;have B:=zAp hw.2;refine(LsA.cons (ws2 (sL rfl) (sL rfl)) (by decide) (.cons (ws3 (sL rfl) (sL rfl) (zDc (by omega))) (by decide) (.cons (ws3 (sL rfl) (sL rfl) (zDc (by omega))) (by decide) (.app (n:=16) (LsA.map (n:=8) hS.nb (fun x hx=>?_) (by decide)) (.app (n:=16) (LsA.map (n:=2) hS.net (fun x _=>ws2 (sL rfl) (sh_pfx _ _)) (by decide)) (.app (n:=16) (LsA.map (n:=3) hS.ag (fun x _=>(ws2 (sL rfl) (sh_pfx _ _)).app (WsA.opt fun _=>ws1 (sL rfl))) (by decide)) (.app (n:=16) (LsA.map (n:=4) hS.cd (fun x _=>ws4 (sL rfl) (sh_pfx _ _) ?_ (sh_pfx _ _)) (by decide)) (la_rd (zBv h).2 vM (by decide) (by decide))))))))).to (by decide)
  ·have h3:=zDh (by decide) g1 x hx
   unfold nbF at h3;obtain⟨h4,h3⟩:=zCu h3;rw[Bool.and_eq_true]at h4;have C:=zAp h4.2;obtain⟨n1,n2⟩:=two_has vM h3;exact(ws4 (sL rfl) (zJs _) (sL rfl) (zDc (by omega))).app ((WsA.opt fun h=>ws2 (sL rfl) (zEf (nm_of n1 h))).app (WsA.opt fun h=>ws2 (sL rfl) (zEf (nm_of n2 h))))
  ·cases x.absent<;>exact sL rfl
 exact(l1.app (l2.app ((l3.app (l4.app l5)).app ((l6.app l7).app (l8.app (l9.app l10)))))).to (by decide)
theorem valid_textA{r:Rt}(h:zBp r=0):(textA (fmtL r)).length≤83000000:=textA_sh (valid_ls h)
end Go.Proofs.YthcnojmldldpeaaGreatDoor
