/- Dialect Beta, plain: how long a valid router's text is at most; what its parts' numbers are. No condition. -/
import Derived.Test.YtdlgnhefpoalnaaGreatDoorHaf
import Derived.Test.YtdlgnhefpoalnaaGreatDoorHaj
namespace Go.Proofs.YtdlgnhefpoalnaaGreatDoor
open Lib (hid)
theorem go_ok{n:Nat}{G:Nat→Int}{P:(k:Nat)→k<n→Prop}(hs:∀k (h:k<n),G k=0→P k h∧G (k+1)=0)(h0:G 0=0):∀k (h:k<n),P k h:=by
 have hg:∀k,k≤n→G k=0:=by
  intro k;induction k with
  |zero=>exact fun _=>h0
  |succ k ih=>exact fun h=>(hs k h (ih (Nat.le_of_succ_le h))).2
 exact fun k h=>(hs k h (hg k (Nat.le_of_lt h))).1
theorem take_any{α:Type}{l:List α}{p:α→Bool}{k:Nat}(h:¬(l.take k).any p=true)(j:Nat)(hjn:j<l.length)(hj:j<k):p l[j]=false:=by
 cases hp:p l[j]with
 |false=>rfl
 |true=>exact absurd (List.any_eq_true.2 ⟨l[j],List.mem_take_iff_getElem.2 ⟨j,by omega,rfl⟩,hp⟩) h
theorem idxF_ge{α:Type}{p:α→Bool}:∀{l:List α} {i k:Nat},¬idxF p l i<k→∀j (hj:j<l.length),i+j<k→p l[j]=false
 |[],_,_,_,_,hj,_=>absurd hj (Nat.not_lt_zero _)
 |y :: r,i,k,h,j,hj,hk=>by
  unfold idxF at h;cases hp:p y with
  |true=>rw[if_pos hp]at h;exact absurd (show(i:Int)<k by omega) h
  |false=>
   rw[if_neg (by rw[hp];decide)]at h
   match j,hj with
   |0,_=>exact hp
   |j+1,hj=>exact idxF_ge (l:=r) h j (by simpa using hj) (by omega)
theorem zHb{β:Type}{f:β→Int}:∀{l:List β},zAj f l=0→∀x∈l,f x=0
 |[],_,_,h=>by cases h
 |y :: r,h,x,hx=>by
  unfold zAj at h;by_cases h0:f y=0
  ·rw[if_pos h0]at h
   rcases List.mem_cons.1 hx with rfl|hx
   ·exact h0
   ·exact zHb h x hx
  ·rw[if_neg h0]at h
   exact absurd h h0
theorem ifs_ok{l:List If}(h:ifsE l=0):l.length≤8∧∀k (hk:k<l.length),nameB l[k].name=true∧(∀j (hj:j<l.length),j<k→(l[j].name==l[k].name)=false)∧zDw l[k]=true∧∀j (hj:j<l.length),j<k→zDm l[k] l[j]=false:=by
 unfold ifsE at h;by_cases h8:8<l.length
 ·rw[if_pos h8]at h;cases h
 rw[if_neg h8]at h;refine⟨by omega,go_ok (G:=fun k=>ifsGo l (l.drop k) k) (fun k hk h=>?_) h⟩;have h2:=ifsGo_at hk h;cases hn:nameB l[k].name with
 |false=>rw[hn]at h2;cases h2
 |true=>
 rw[hn]at h2;simp only[Bool.not_true,Bool.false_eq_true,if_false]at h2;by_cases h3:idxF (fun y=>y.name==l[k].name) l 0<k
 ·rw[if_pos h3]at h2;cases h2
 rw[if_neg h3]at h2;cases hr:zDw l[k]with
 |false=>rw[hr]at h2;cases h2
 |true=>
 rw[hr]at h2;simp only[Bool.not_true,Bool.false_eq_true,if_false]at h2;by_cases h4:(l.take k).any (zDm l[k])=true
 ·rw[if_pos h4]at h2;cases h2
 rw[if_neg h4]at h2;exact⟨⟨rfl,fun j hj hjk=>idxF_ge h3 j hj (by omega),rfl,take_any h4⟩,h2.symm⟩
theorem listE_ok{k first size most:Int}{name:List UInt8}(h:listE k first name size most=0):nameB name=true∧¬first<k∧size≠0∧size≤most:=by
 unfold listE at h;cases hn:nameB name with
 |false=>rw[hn]at h;cases h
 |true=>
 rw[hn]at h;simp only[Bool.not_true,Bool.false_eq_true,if_false]at h;by_cases h1:first<k
 ·rw[if_pos h1]at h;cases h
 by_cases h2:size=0
 ·rw[if_neg h1,if_pos h2]at h;cases h
 by_cases h3:most<size
 ·rw[if_neg h1,if_neg h2,if_pos h3]at h;cases h
 exact⟨rfl,h1,h2,by omega⟩
theorem ls_ok{α:Type}{name:α→List UInt8}{len:α→Nat}{inner:α→Int}{most:Int}{l:List α}(h:lsE name len inner most l=0):l.length≤8∧∀k (hk:k<l.length),nameB (name l[k])=true∧(∀j (hj:j<l.length),j<k→(name l[j]==name l[k])=false)∧(len l[k]:Int)≠0∧(len l[k]:Int)≤most∧inner l[k]=0:=by
 unfold lsE at h;by_cases h8:8<l.length
 ·rw[if_pos h8]at h;cases h
 rw[if_neg h8]at h;refine⟨by omega,go_ok (G:=fun k=>lsGo name len inner most l (l.drop k) k) (fun k hk h=>?_) h⟩;have h2:=zKs hk h;by_cases h3:listE k (idxF (fun y=>name y==name l[k]) l 0) (name l[k]) (len l[k]) most=0
 ·rw[if_pos h3]at h2
  obtain⟨e1,e2,e3,e4⟩:=listE_ok h3;by_cases h4:inner l[k]=0
  ·rw[if_pos h4]at h2
   exact⟨⟨e1,fun j hj hjk=>idxF_ge e2 j hj (by omega),e3,e4,h4⟩,h2.symm⟩
  ·rw[if_neg h4]at h2;exact absurd h2.symm h4
 ·rw[if_neg h3]at h2;exact absurd h2.symm h3
theorem zDz{α:Type}{most:Nat}{f:α→Int}{c:α→α→Bool}{err:Int}{l:List α}(he:err≠0)(h:pairE most f c err l=0):l.length≤most∧∀k (hk:k<l.length),f l[k]=0∧∀j (hj:j<l.length),j<k→c l[k] l[j]=false:=by
 unfold pairE at h;by_cases h8:most<l.length
 ·rw[if_pos h8]at h;cases h
 rw[if_neg h8]at h;refine⟨by omega,go_ok (G:=fun k=>zAq f c err l (l.drop k) k) (fun k hk h=>?_) h⟩;have h2:=zCx hk h;by_cases h3:f l[k]=0
 ·rw[if_pos h3]at h2
  by_cases h4:(l.take k).any (c l[k])=true
  ·rw[if_pos h4]at h2;exact absurd h2.symm he
  ·rw[if_neg h4]at h2
   exact⟨⟨h3,take_any h4⟩,h2.symm⟩
 ·rw[if_neg h3]at h2;exact absurd h2.symm h3
theorem zCc{a b:Int}(h:(if a=0 then b else a)=0):a=0∧b=0:=by
 by_cases h0:a=0
 ·rw[if_pos h0]at h;exact⟨h0,h⟩
 ·rw[if_neg h0]at h;exact absurd h h0
theorem router_ok{r:Rt}(h:zBl r=0):nameB r.name=true∧zAb r.asn 0 65535=true∧ifsE r.ifs=0∧plsE r.lists=0∧mapsE r.lists r.maps=0∧aclsE r.acls=0∧natsE r.acls r.nat=0∧zAj (filtE r.acls) r.ifs=0∧zLg r.ifs r.stat=0∧lnkE r=0∧dvE r=0∧pvE r=0:=by
 unfold zBl at h;cases hn:nameB r.name with
 |false=>rw[hn]at h;cases h
 |true=>
 rw[hn]at h;simp only[Bool.not_true,Bool.false_eq_true,if_false]at h;cases hw:zAb r.asn 0 65535 with
 |false=>rw[hw]at h;cases h
 |true=>
 rw[hw]at h;simp only[Bool.not_true,Bool.false_eq_true,if_false]at h;have hf:=zHb h;unfold secsE at hf;simpa using hf
end Go.Proofs.YtdlgnhefpoalnaaGreatDoor
namespace Go.Proofs.YtdlgnhefpoalnaaGreatDoor
open Lib (hid)
open Go.RowKit
def foldN(f:Fm):List (List UInt8)→List Nd→Rt→Option (List (List UInt8) × Rt)
 |keys,[],r=>some (keys,r)
 |keys,n :: ns,r=>match zBo f keys n r with
  |(r', keys', none)=>foldN f keys' ns r'
  |(_,_,some _)=>none
theorem foldN_read(f:Fm):∀(ns:List Nd) (keys:List (List UInt8)) (r:Rt) (x:List (List UInt8) × Rt),foldN f keys ns r=some x→readN f keys ns r=(x.2,none):=by
 intro ns;induction ns with
 |nil=>intro keys r x h;cases h;simp only[readN]
 |cons n ns ih=>
  intro keys r x h;simp only[foldN]at h;simp only[readN]
  revert h
  match zBo f keys n r with
  |(r', keys', none)=>intro h;exact ih _ _ _ h
  |(_,_,some _)=>intro h;cases h
theorem foldN_app(f:Fm)(b:List Nd):∀(a:List Nd) (keys:List (List UInt8)) (r:Rt) (x:List (List UInt8) × Rt),foldN f keys a r=some x→foldN f keys (a++b) r=foldN f x.1 b x.2:=by
 intro a;induction a with
 |nil=>intro keys r x h;cases h;rfl
 |cons n ns ih=>
  intro keys r x h;simp only[foldN,List.cons_append]at h⊢
  revert h
  match zBo f keys n r with
  |(r', keys', none)=>intro h;exact ih _ _ _ h
  |(_,_,some _)=>intro h;cases h
abbrev KP:=List UInt8→Prop
def okWs:List (List UInt8)→Prop
 |[]=>False
 |[x]=>okW x
 |x :: y :: r=>okW x∧okWs (y :: r)
theorem zOj:∀{ws:List (List UInt8)},okWs ws→ws≠[]∧∀x∈ws,okW x
 |[x],h=>⟨by simp,fun y hy=>by rw[List.mem_singleton.1 hy];exact h⟩
 |x :: y :: r,h=>⟨by simp,List.forall_mem_cons.2 ⟨h.1,(zOj h.2).2⟩⟩
def litB(x:List UInt8):Bool:=(!x.isEmpty&&decide (x.length≤40))&&x.all fun b=>wordB b.toNat&&(decide (33≤b.toNat)&&decide (b.toNat≤126))
theorem lit{x:List UInt8}(h:litB x=true):okW x:=by
 simp only[litB,Bool.and_eq_true,List.all_eq_true,decide_eq_true_eq]at h;exact⟨⟨by rintro rfl;exact absurd h.1.1 (by decide),h.1.2⟩,h.2⟩
def Reads(f:Fm)(P P' : KP)(ns:List Nd)(r r' : Rt):Prop:=okL ns∧∀keys,(∀k∈keys,P k)→∃keys', foldN f keys ns r=some (keys', r')∧∀k∈keys', P' k
section
variable {f g : Fm} {P P' P'' : KP} {a c : List Nd} {r r' r'' : Rt} {ws : List (List UInt8)} {key : List UInt8}
theorem Reads.nil(h:∀k,P k→P' k):Reads f P P' [] r r:=⟨by simp only[okL],fun keys hk=>⟨keys,rfl,fun k hm=>h k (hk k hm)⟩⟩
theorem Reads.imp(h:Reads f P P' a r r')(h' :∀k,P' k→P'' k):Reads f P P'' a r r' := ⟨h.1,fun keys hk=>by
 obtain⟨k', e,h2⟩:=h.2 keys hk
 exact⟨k', e,fun k hm=>h' k (h2 k hm)⟩⟩
theorem Reads.pre(h:Reads f P P' a r r')(h' :∀k,P'' k→P k):Reads f P'' P' a r r' := ⟨h.1,fun keys hk=>h.2 keys fun k hm=>h' k (hk k hm)⟩
theorem Reads.app(h1:Reads f P P' a r r')(h2:Reads f P' P'' c r' r''):Reads f P P'' (a++c) r r'' := ⟨okL_append.2 ⟨h1.1,h2.1⟩,fun keys hk=>by
 obtain⟨k1,e1,h1⟩:=h1.2 keys hk;obtain⟨k2,e2,h2⟩:=h2.2 k1 h1
 exact⟨k2,(foldN_app f c a keys r _ e1).trans e2,h2⟩⟩
theorem Reads.cons{n:Nd}(h1:Reads f P P' [n] r r')(h2:Reads f P' P'' c r' r''):Reads f P P'' (n :: c) r r'' := h1.app h2
theorem new_key{keys:List (List UInt8)}(hk:∀k∈keys,P k)(h:key=[]∨¬P key):(!key.isEmpty&&keys.contains key)=false:=by
 rcases h with rfl|h
 ·rfl
 ·cases h2:keys.contains key with
  |false=>rw[Bool.and_false]
  |true=>exact absurd (hk key (List.contains_iff_mem.1 h2)) h
theorem Reads.st(hw:okWs ws)(hk:key=[]∨¬P key)(he:fmS f false r ⟨ws,false⟩=(key,none,r', ⟨[],false⟩)):Reads f P (fun k=>k=key∨P k) [stn ws] r r' :=
 ⟨by simp only[stn,okL,Nd.ok,ne_eq,true_and,implies_true,and_true];exact zOj hw,fun keys h=>by
 refine⟨key :: keys,?_,fun k hm=>(List.mem_cons.1 hm).imp id (h k)⟩;have h1:=new_key h hk
 simp only[foldN,stn,zBo,he,doneB,h1,Bool.not_false,List.isEmpty_nil,Bool.and_self,Bool.not_true,Option.isSome_none,bne_self_eq_false,Bool.or_self,Bool.false_eq_true,if_false]⟩
theorem Reads.bl{P2:KP}{ks:List Nd}{r1:Rt}(hw:okWs ws)(hk:key=[]∨¬P key)(he:fmS f true r ⟨ws,false⟩=(key,some g,r1,⟨[],false⟩))(hr:Reads g (fun _=>False) P2 ks r1 r') :
  Reads f P (fun k=>k=key∨P k) [bln ws ks] r r' :=
 ⟨by simp only[bln,okL,Nd.ok,ne_eq,true_and,and_true];exact⟨(zOj hw).1,(zOj hw).2,fun h=>(by cases h),hr.1⟩,fun keys h=>by
 refine⟨key :: keys,?_,fun k hm=>(List.mem_cons.1 hm).imp id (h k)⟩;have h1:=new_key h hk;obtain⟨k2,e2,_⟩:=hr.2 [] fun _ h=>by cases h
 have e3:=foldN_read g ks [] r1 _ e2
 simp only[foldN,bln,zBo,he,doneB,h1,Bool.not_false,List.isEmpty_nil,Bool.and_self,Bool.not_true,Option.isSome_some,bne_self_eq_false,Bool.or_self,Bool.false_eq_true,if_false,e3]⟩
theorem Reads.os{b:Bool}(hw:b=true→okWs ws)(hk:key=[]∨¬P key)(he:b=true→fmS f false r ⟨ws,false⟩=(key,none,r', ⟨[],false⟩))(hf:b=false→r=r'):Reads f P (fun k=>k=key∨P k) (optN b (stn ws)) r r' := by
 cases b with
 |true=>exact .st (hw rfl) hk (he rfl)
 |false=>rw[←hf rfl];exact .nil fun _ h=>.inr h
theorem st_eq{w2:Rt}{p p' : Ps}{o:Option Fm}{bl:Bool}(h:fmS f bl r ⟨ws,false⟩=(key,o,r', p))(h1:r' = w2)(h2:p=p'):fmS f bl r ⟨ws,false⟩=(key,o,w2,p'):=by rw[h,h1,h2]
end
theorem zGq{α:Type}{f:Fm}{P:KP}(nd:α→Nd)(key:α→List UInt8)(st:List α→Rt)(l:List α)
  (h:∀a x c,l=a++x :: c→∀P1:KP,(∀k,P1 k→P k∨∃y∈a,k=key y)→Reads f P1 (fun k=>k=key x∨P1 k) [nd x] (st a) (st (a++[x]))) :
  Reads f P (fun k=>P k∨∃y∈l,k=key y) (l.map nd) (st []) (st l):=by
 have H:∀c a:List α,l=a++c→Reads f (fun k=>P k∨∃y∈a,k=key y) (fun k=>P k∨∃y∈l,k=key y) (c.map nd) (st a) (st l):=by
  intro c;induction c with
  |nil=>intro a e;rw[List.append_nil]at e;subst e;exact .nil fun _ h=>h
  |cons x c ih=>
   intro a e;refine .app (a:=[nd x]) (c:=c.map nd) ((h a x c e _ fun _ h=>h).imp ?_) (ih (a++[x]) (by rw[e,List.append_assoc];rfl));rintro k (rfl|h|⟨y,hy,rfl⟩)
   ·exact .inr ⟨x,by simp,rfl⟩
   ·exact .inl h
   ·exact .inr ⟨y,List.mem_append_left _ hy,rfl⟩
 exact(H l [] rfl).pre fun k h=>.inl h
theorem apart{α:Type}{c:α→α→Prop}{l a b:List α}{x:α}(h:∀k (hk:k<l.length),∀j (hj:j<l.length),j<k→c l[k] l[j])(e:l=a++x :: b):∀y∈a,c x y:=by
 subst e;intro y hy;obtain⟨j,hj,rfl⟩:=List.getElem_of_mem hy;have h1:=h a.length (by simp) j (by simp;omega) hj;rw[List.getElem_append_right (Nat.le_refl _),List.getElem_append_left hj]at h1;simpa using h1
theorem zEi{α:Type}(g:α→α)(x:α):∀l:List α,lastF g (l++[x])=l++[g x]
 |[]=>rfl
 |[_]=>rfl
 |y :: z :: r=>by
  have h:=zEi g x (z :: r);simp only[List.cons_append]at h⊢;rw[lastF,h];intro h2;cases h2
theorem ne_of{n:Int}(h:(!(n==0))=true):n≠0:=by simpa using h
theorem zFx{n:Int}(h:(!(n==0))=false):n=0:=by simpa using h
theorem m1_ne{n:Int}(h:(!(n == -1))=true):n ≠ -1:=by simpa using h
theorem m1_of{n:Int}(h:(!(n == -1))=false):n = -1:=by simpa using h
theorem nm_of{x:List UInt8}(hx:x=[]∨nameB x=true)(h:(!x.isEmpty)=true):nameB x=true:=by
 rcases hx with rfl|hx
 ·cases h
 ·exact hx
theorem zKi{x:List UInt8}(h:(!x.isEmpty)=false):x=[]:=by simpa using h
theorem zAm{n lo hi:Int}(h:zAb n lo hi=true):lo≤n∧n≤hi:=by simpa [zAb] using h
def stI(s:Rt)(l:List If)(y:If):Rt:={ s with ifs:=l++[y] }
theorem zMl(g:If→If)(s:Rt)(l:List If)(y:If):ifF g (stI s l y)=stI s l (g y):=by simp only[ifF,stI,zEi]
theorem ifc_ok{x:If}(h:zDw x=true):(0≤x.len∧x.len≤32)∧(0≤x.vlan∧x.vlan≤4094)∧(0≤x.side∧x.side≤2)∧(x.len=0→x.addr=0)∧(x.len≠0→x.addr≠0)∧(x.ls=true→(0≤x.area∧x.area≤255)∧1≤x.cost∧x.cost≤65535)∧(x.ls=false→x.area=0∧x.cost=0):=by
 simp only[zDw,Bool.and_eq_true]at h;obtain⟨⟨⟨⟨⟨h1,h2⟩,h3⟩,h4⟩,h5⟩,h6⟩:=h;refine⟨zAm h1,zAm h2,zAm h3,fun e=>?_,fun e e2=>?_,fun e=>?_,fun e=>?_⟩
 ·by_cases ha:x.addr=0
  ·exact ha
  ·simp[e,ha]at h4
 ·simp[e,e2]at h5
 ·rw[e,if_pos rfl]at h6
  rw[Bool.and_eq_true]at h6;exact⟨zAm h6.1,zAm h6.2⟩
 ·rw[e]at h6
  simpa using h6
theorem ls_back{a c:Int}(ha:0≤a∧a≤255)(hc:1≤c∧c≤65535):ifLS ⟨[[97,114,101,97],decI a,[99,111,115,116],decI c],false⟩=(a,c,⟨[],false⟩):=by
 have h1:=zCw [[99,111,115,116],decI c] false ha.1 ha.1 ha.2 (by decide);have h2:=zCw [] false (Int.le_trans (by decide) hc.1) hc.1 hc.2 (by decide);have e1:optS [97,114,101,97] ⟨[[97,114,101,97],decI a,[99,111,115,116],decI c],false⟩=⟨[decI a,[99,111,115,116],decI c],false⟩:=rfl;have e2:isW [97,114,101,97] ⟨[[97,114,101,97],decI a,[99,111,115,116],decI c],false⟩=true:=rfl;have e3:isW [99,111,115,116] ⟨[[99,111,115,116],decI c],false⟩=true:=rfl;have e4:optS [99,111,115,116] ⟨[[99,111,115,116],decI c],false⟩=⟨[decI c],false⟩:=rfl;simp only[ifLS,e1,e2,mustS,if_true,h1.1,h1.2,e3,e4,h2.1,h2.2]
theorem side_reads(s:Rt)(l:List If)(x:If)(h:0≤x.side∧x.side≤2){P:KP}(hk:¬P [115,105,100,101]) :
  Reads .iface P (fun k=>k=[115,105,100,101]∨P k) (sideN x.side) (stI s l ⟨x.name,x.addr,x.len,x.vlan,x.down,x.ls,x.area,x.cost,x.dv,x.inn,x.out,0⟩) (stI s l x):=by
 obtain⟨n,a,b,c,d,e,f,g,i,j,k,z⟩:=x;simp only at h⊢;obtain rfl|rfl|rfl:z=0∨z=1∨z=2:=by omega
 ·exact .nil fun _ h=>.inr h
 ·exact .st (key:=[115,105,100,101]) ⟨lit rfl,lit rfl⟩ (.inr hk) (st_eq rfl (zMl ..) rfl)
 ·exact .st (key:=[115,105,100,101]) ⟨lit rfl,lit rfl⟩ (.inr hk) (st_eq rfl (zMl ..) rfl)
theorem if_reads(s:Rt)(l:List If)(x:If)(hx:zDw x=true)(hf:x.addr<4294967296)(hi:x.inn=[]∨nameB x.inn=true)(ho:x.out=[]∨nameB x.out=true) :
  ∃P', Reads .iface (fun _=>False) P' (ifK x) (stI s l ⟨x.name,0,0,0,false,false,0,0,false,[],[],0⟩) (stI s l x):=by
 obtain⟨k1,k2,k3,k4,k5,k6,k7⟩:=ifc_ok hx;have A:=fun h:x.len≠0=>ho_back [] false (n:=x.len) hf (by omega) k1.2 (k5 h)
 have V:=zCw [] false k2.1 k2.1 k2.2 (by decide)
 exact⟨_,
 (.app (.os (key:=[97,100,100,114,101,115,115]) (r' := stI s l ⟨x.name,x.addr,x.len,0,false,false,0,0,false,[],[],0⟩) (fun h=>⟨lit rfl,okW_host k1.1 k1.2⟩) (.inr (by decide)) (fun h=>st_eq rfl (by simp only[zMl,zAo,(A (ne_of h)).1]) (A (ne_of h)).2) (fun h=>by rw[zFx h,k4 (zFx h)]))
 (.app (.os (key:=[118,108,97,110]) (r' := stI s l ⟨x.name,x.addr,x.len,x.vlan,false,false,0,0,false,[],[],0⟩) (fun h=>⟨lit rfl,zCe (by omega)⟩) (.inr (by decide)) (fun h=>st_eq rfl (by simp only[zMl,zAo,V.1]) V.2) (fun h=>by rw[zFx h]))
 (.app (.os (key:=[100,105,115,97,98,108,101]) (r' := stI s l ⟨x.name,x.addr,x.len,x.vlan,x.down,false,0,0,false,[],[],0⟩) (fun h=>lit rfl) (.inr (by decide)) (fun h=>st_eq rfl (by simp only[zMl,h]) rfl) (fun h=>by rw[h]))
 (.app (.os (key:=[108,105,110,107,45,115,116,97,116,101]) (r' := stI s l ⟨x.name,x.addr,x.len,x.vlan,x.down,x.ls,x.area,x.cost,false,[],[],0⟩) (fun h=>⟨lit rfl,lit rfl,zCe (by have:=k6 h;omega),lit rfl,zCe (by have:=k6 h;omega)⟩) (.inr (by decide)) (fun h=>st_eq rfl (by simp only[zMl,zAo,ls_back (k6 h).1 (k6 h).2,h]) (by simp only[zAo,ls_back (k6 h).1 (k6 h).2])) (fun h=>by rw[h,(k7 h).1,(k7 h).2]))
 (.app (.os (key:=[100,105,115,116,97,110,99,101,45,118,101,99,116,111,114]) (r' := stI s l ⟨x.name,x.addr,x.len,x.vlan,x.down,x.ls,x.area,x.cost,x.dv,[],[],0⟩) (fun h=>lit rfl) (.inr (by decide)) (fun h=>st_eq rfl (by simp only[zMl,h]) rfl) (fun h=>by rw[h]))
 (.app (.os (key:=[105,110,112,117,116]) (r' := stI s l ⟨x.name,x.addr,x.len,x.vlan,x.down,x.ls,x.area,x.cost,x.dv,x.inn,[],0⟩) (fun h=>⟨lit rfl,zDa (nm_of hi h)⟩) (.inr (by decide)) (fun h=>st_eq rfl (by simp only[zMl,zAo,nmV,zEn]) (zFj _ _ (nm_of hi h)).2) (fun h=>by rw[zKi h]))
 (.app (.os (key:=[111,117,116,112,117,116]) (r' := stI s l ⟨x.name,x.addr,x.len,x.vlan,x.down,x.ls,x.area,x.cost,x.dv,x.inn,x.out,0⟩) (fun h=>⟨lit rfl,zDa (nm_of ho h)⟩) (.inr (by decide)) (fun h=>st_eq rfl (by simp only[zMl,zAo,nmV,zEn]) (zFj _ _ (nm_of ho h)).2) (fun h=>by rw[zKi h]))
 (side_reads s l x k3 (by decide)))))))))⟩
def stC(s:Rt)(l:List RMap)(m:List UInt8)(cs:List Cl)(y:Cl):Rt:={ s with maps:=l++[⟨m,.slice none 0 0,cs++[y]⟩] }
theorem zNs(g:Cl→Cl)(s:Rt)(l:List RMap)(m:List UInt8)(cs:List Cl)(y:Cl):clF g (stC s l m cs y)=stC s l m cs (g y):=by simp only[clF,stC,zEi]
theorem cl_ok{x:Cl}(h:zDj x=true):(-1≤x.tag∧x.tag≤65535)∧(-1≤x.setM∧x.setM≤16777215)∧(-1≤x.setT∧x.setT≤65535)∧(-1≤x.setP∧x.setP≤1000000)∧0≤x.prep∧x.prep≤8:=by
 simp only[zDj,Bool.and_eq_true]at h;obtain⟨⟨⟨⟨h1,h2⟩,h3⟩,h4⟩,h5⟩:=h;exact⟨zAm h1,zAm h2,zAm h3,zAm h4,zAm h5⟩
theorem no_opt{n hi:Int}(h : -1≤n∧n≤hi)(hh:hi≤9999999999)(hn:n ≠ -1):noV 0 hi ⟨[decI n],false⟩=n∧noS 0 hi ⟨[decI n],false⟩=⟨[],false⟩:=zCw [] false (by omega) (by omega) h.2 hh
theorem act_reads(s:Rt)(l:List RMap)(m:List UInt8)(cs:List Cl)(x:Cl){P:KP}(hk:¬P [97,99,116,105,111,110]) :
  Reads .clause P (fun k=>k=[97,99,116,105,111,110]∨P k) [stn [if x.permit then [97,99,99,101,112,116]else [114,101,106,101,99,116]]] (stC s l m cs ⟨true,x.list,x.tag,x.setM,x.setT,x.setP,x.prep⟩) (stC s l m cs x):=by
 obtain⟨p,a,b,c,d,e,f⟩:=x;cases p
 ·exact .st (key:=[97,99,116,105,111,110]) (lit rfl) (.inr hk) (st_eq rfl (zNs ..) rfl)
 ·exact .st (key:=[97,99,116,105,111,110]) (lit rfl) (.inr hk) (st_eq rfl (zNs ..) rfl)
theorem cl_reads(s:Rt)(l:List RMap)(m:List UInt8)(cs:List Cl)(x:Cl)(hx:zDj x=true)(hl:x.list=[]∨nameB x.list=true) :
  ∃P', Reads .clause (fun _=>False) P' (clK x) (stC s l m cs ⟨true,[], -1, -1, -1, -1,0⟩) (stC s l m cs x):=by
 obtain⟨k1,k2,k3,k4,k5⟩:=cl_ok hx;have T:=no_opt k1 (by decide);have M:=no_opt k2 (by decide);have U:=no_opt k3 (by decide);have F:=no_opt k4 (by decide);have N:=zCw [] false k5.1 k5.1 k5.2 (by decide)
 exact⟨_,
 (.app (.os (key:=[102,114,111,109,32,108,105,115,116]) (r' := stC s l m cs ⟨true,x.list, -1, -1, -1, -1,0⟩) (fun h=>⟨lit rfl,lit rfl,zDa (nm_of hl h)⟩) (.inr (by decide)) (fun h=>st_eq rfl (by simp only[zNs,zAo,nmV,zEn]) (zFj _ _ (nm_of hl h)).2) (fun h=>by rw[zKi h]))
 (.app (.os (key:=[102,114,111,109,32,116,97,103]) (r' := stC s l m cs ⟨true,x.list,x.tag, -1, -1, -1,0⟩) (fun h=>⟨lit rfl,lit rfl,zCe (by omega)⟩) (.inr (by decide)) (fun h=>st_eq rfl (by simp only[zNs,zAo,(T (m1_ne h)).1]) (T (m1_ne h)).2) (fun h=>by rw[m1_of h]))
 (.app (.os (key:=[116,104,101,110,32,109,101,116,114,105,99]) (r' := stC s l m cs ⟨true,x.list,x.tag,x.setM, -1, -1,0⟩) (fun h=>⟨lit rfl,lit rfl,zCe (by omega)⟩) (.inr (by decide)) (fun h=>st_eq rfl (by simp only[zNs,zAo,(M (m1_ne h)).1]) (M (m1_ne h)).2) (fun h=>by rw[m1_of h]))
 (.app (.os (key:=[116,104,101,110,32,116,97,103]) (r' := stC s l m cs ⟨true,x.list,x.tag,x.setM,x.setT, -1,0⟩) (fun h=>⟨lit rfl,lit rfl,zCe (by omega)⟩) (.inr (by decide)) (fun h=>st_eq rfl (by simp only[zNs,zAo,(U (m1_ne h)).1]) (U (m1_ne h)).2) (fun h=>by rw[m1_of h]))
 (.app (.os (key:=[116,104,101,110,32,112,114,101,102,101,114,101,110,99,101]) (r' := stC s l m cs ⟨true,x.list,x.tag,x.setM,x.setT,x.setP,0⟩) (fun h=>⟨lit rfl,lit rfl,zCe (by omega)⟩) (.inr (by decide)) (fun h=>st_eq rfl (by simp only[zNs,zAo,(F (m1_ne h)).1]) (F (m1_ne h)).2) (fun h=>by rw[m1_of h]))
 (.app (.os (key:=[116,104,101,110,32,112,114,101,112,101,110,100]) (r' := stC s l m cs ⟨true,x.list,x.tag,x.setM,x.setT,x.setP,x.prep⟩) (fun h=>⟨lit rfl,lit rfl,zCe (by omega)⟩) (.inr (by decide)) (fun h=>st_eq rfl (by simp only[zNs,zAo,N.1]) N.2) (fun h=>by rw[zFx h]))
 (act_reads s l m cs x (by decide))))))))⟩
def stR(s:Rt)(l:List AList)(m:List UInt8)(cs:List Ru)(y:Ru):Rt:={ s with acls:=l++[⟨m,.slice none 0 0,cs++[y]⟩] }
theorem ruF_st(g:Ru→Ru)(s:Rt)(l:List AList)(m:List UInt8)(cs:List Ru)(y:Ru):ruF g (stR s l m cs y)=stR s l m cs (g y):=by simp only[ruF,stR,zEi]
theorem and_full{a:Nat}(ha:a<4294967296)(h:a &&& 4294967295=0):a=0:=by
 rw[show(4294967295:Nat)=2 ^ 32 - 1 from rfl,Nat.and_two_pow_sub_one_eq_mod]at h;omega
theorem ports_ok{lo hi:Int}(h:zFl lo hi=true):0≤lo∧lo≤hi∧hi≤65535:=by simpa [zFl,and_assoc] using h
theorem ru_ok{x:Ru}(h:zDc x=true):(-1≤x.proto∧x.proto≤255)∧x.sa &&& x.sm=0∧x.da &&& x.dm=0∧(0≤x.slo∧x.slo≤x.shi∧x.shi≤65535)∧0≤x.dlo∧x.dlo≤x.dhi∧x.dhi≤65535:=by
 simp only[zDc,Bool.and_eq_true]at h;obtain⟨⟨⟨⟨⟨h1,h2⟩,h3⟩,h4⟩,h5⟩,h6⟩:=h;exact⟨zAm h1,by simpa using h2,by simpa using h3,ports_ok h4,ports_ok h5⟩
theorem full_of{n:Nat}(h:(!(n==4294967295))=false):n=4294967295:=by simpa using h
theorem all_of{a b:Int}(h:(!(a==0&&b==65535))=false):a=0∧b=65535:=by simpa using h
theorem pass_reads(s:Rt)(l:List AList)(m:List UInt8)(cs:List Ru)(x:Ru){P:KP}(hk:¬P [97,99,116,105,111,110]) :
  Reads .rule P (fun k=>k=[97,99,116,105,111,110]∨P k) [stn [if x.permit then [97,99,99,101,112,116]else [100,105,115,99,97,114,100]]] (stR s l m cs ⟨true,x.proto,x.sa,x.sm,x.da,x.dm,x.slo,x.shi,x.dlo,x.dhi⟩) (stR s l m cs x):=by
 obtain⟨p,a,b,c,d,e,f,g,h,i⟩:=x;cases p
 ·exact .st (key:=[97,99,116,105,111,110]) (lit rfl) (.inr hk) (st_eq rfl (ruF_st ..) rfl)
 ·exact .st (key:=[97,99,116,105,111,110]) (lit rfl) (.inr hk) (st_eq rfl (ruF_st ..) rfl)
theorem ru_reads(s:Rt)(l:List AList)(m:List UInt8)(cs:List Ru)(x:Ru)(hx:zDc x=true)(hf:x.fit) :
  ∃P', Reads .rule (fun _=>False) P' (ruK x) (stR s l m cs ⟨true, -1,0,4294967295,0,4294967295,0,65535,0,65535⟩) (stR s l m cs x):=by
 obtain⟨k1,k2,k3,k4,k5⟩:=ru_ok hx;obtain⟨f1,f2,f3,f4⟩:=hf;have T:=fun h:x.proto ≠ -1=>prot_back [] false (n:=x.proto) (by omega) k1.2
 have S:=wi_back [] false f1 f2 k2;have D:=wi_back [] false f3 f4 k3;have A:=po_back [] false k4.1 k4.2.1 k4.2.2;have C:=po_back [] false k5.1 k5.2.1 k5.2.2;have zs:x.sm=4294967295→x.sa=0:=fun e=>by rw[e]at k2;exact and_full f1 k2
 have zd:x.dm=4294967295→x.da=0:=fun e=>by rw[e]at k3;exact and_full f3 k3
 exact⟨_,
 (.app (.os (key:=[112,114,111,116,111,99,111,108]) (r' := stR s l m cs ⟨true,x.proto,0,4294967295,0,4294967295,0,65535,0,65535⟩) (fun h=>⟨lit rfl,(T (m1_ne h)).2.2⟩) (.inr (by decide)) (fun h=>st_eq rfl (by simp only[ruF_st,zAo,(T (m1_ne h)).1]) (T (m1_ne h)).2.1) (fun h=>by rw[m1_of h]))
 (.app (.os (key:=[115,111,117,114,99,101]) (r' := stR s l m cs ⟨true,x.proto,x.sa,x.sm,0,4294967295,0,65535,0,65535⟩) (fun h=>⟨lit rfl,(wild_back f1 f2 k2).2⟩) (.inr (by decide)) (fun h=>st_eq rfl (by simp only[ruF_st,zAo,S.1]) S.2) (fun h=>by rw[zs (full_of h),full_of h]))
 (.app (.os (key:=[100,101,115,116,105,110,97,116,105,111,110]) (r' := stR s l m cs ⟨true,x.proto,x.sa,x.sm,x.da,x.dm,0,65535,0,65535⟩) (fun h=>⟨lit rfl,(wild_back f3 f4 k3).2⟩) (.inr (by decide)) (fun h=>st_eq rfl (by simp only[ruF_st,zAo,D.1]) D.2) (fun h=>by rw[zd (full_of h),full_of h]))
 (.app (.os (key:=[115,111,117,114,99,101,45,112,111,114,116]) (r' := stR s l m cs ⟨true,x.proto,x.sa,x.sm,x.da,x.dm,x.slo,x.shi,0,65535⟩) (fun h=>⟨lit rfl,(port_back k4.1 k4.2.1 k4.2.2).2⟩) (.inr (by decide)) (fun h=>st_eq rfl (by simp only[ruF_st,zAo,A.1]) A.2) (fun h=>by rw[(all_of h).1,(all_of h).2]))
 (.app (.os (key:=[100,101,115,116,105,110,97,116,105,111,110,45,112,111,114,116]) (r' := stR s l m cs ⟨true,x.proto,x.sa,x.sm,x.da,x.dm,x.slo,x.shi,x.dlo,x.dhi⟩) (fun h=>⟨lit rfl,(port_back k5.1 k5.2.1 k5.2.2).2⟩) (.inr (by decide)) (fun h=>st_eq rfl (by simp only[ruF_st,zAo,C.1]) C.2) (fun h=>by rw[(all_of h).1,(all_of h).2]))
 (pass_reads s l m cs x (by decide)))))))⟩
def stS(s:Rt)(l:List Sr)(y:Sr):Rt:={ s with stat:=l++[y] }
theorem stF_st(g:Sr→Sr)(s:Rt)(l:List Sr)(y:Sr):stF g (stS s l y)=stS s l (g y):=by simp only[stF,stS,zEi]
theorem goal_reads(s:Rt)(l:List Sr)(x:Sr)(hc:cntB (zJa x)=1)(hf:x.next<4294967296)(hi:x.iface=[]∨nameB x.iface=true) :
  Reads .static (fun _=>False) (fun k=>k=[116,97,114,103,101,116]∨False) [goalN x] (stS s l ⟨x.pa,x.pl,0,[],false,5,0⟩) (stS s l ⟨x.pa,x.pl,x.next,x.iface,x.discard,5,0⟩):=by
 obtain⟨pa,pl,next,iface,discard,admin,tag⟩:=x;simp only[zJa,cntB,goalN]at hc hf hi⊢;by_cases h1:next=0
 ·subst h1
  by_cases h2:iface=[]
  ·subst h2
   cases discard
   ·exact absurd hc (by decide)
   ·exact .st (lit rfl) (.inr (by decide)) (st_eq rfl (stF_st ..) rfl)
  ·have e:iface.isEmpty=false:=by cases iface with|nil=>exact absurd rfl h2|cons=>rfl
   cases discard
   ·have hn:=nm_of hi (by rw[e];rfl)
    simp only[e,Bool.not_false,if_true,beq_self_eq_true,Bool.not_true,Bool.false_eq_true,if_false];exact .st ⟨lit rfl,zDa hn⟩ (.inr (by decide)) (st_eq rfl (by simp only[stF_st,zAo,nmV,zEn]) (zFj _ _ hn).2)
   ·rw[e]at hc
    exact absurd hc (by decide)
 ·have e:(next==0)=false:=by simpa using h1
  have h2:iface=[]∧discard=false:=by
   rw[e]at hc;cases iface with
   |nil=>cases discard with
    |false=>exact⟨rfl,rfl⟩
    |true=>exact absurd hc (by decide)
   |cons a b=>cases discard with
    |false=>exact absurd hc (by simp)
    |true=>exact absurd hc (by simp)
  obtain⟨rfl,rfl⟩:=h2;simp only[e,Bool.not_false,if_true];exact .st ⟨lit rfl,zIi _⟩ (.inr (by decide)) (st_eq rfl (by simp only[stF_st,zAo,(zIm [] false hf).1]) (zIm [] false hf).2)
theorem sr_reads(s:Rt)(l:List Sr)(x:Sr)(hc:cntB (zJa x)=1)(hf:x.next<4294967296)(hi:x.iface=[]∨nameB x.iface=true)(ha:1≤x.admin∧x.admin≤255)(ht:0≤x.tag∧x.tag≤65535) :
  ∃P', Reads .static (fun _=>False) P' (srK x) (stS s l ⟨x.pa,x.pl,0,[],false,5,0⟩) (stS s l x):=by
 have A:=zCw [] false (Int.le_trans (by decide) ha.1) ha.1 ha.2 (by decide);have T:=zCw [] false ht.1 ht.1 ht.2 (by decide)
 exact⟨_,.app (goal_reads s l x hc hf hi)
 (.app (.st (key:=[112,114,101,102,101,114,101,110,99,101]) (r' := stS s l ⟨x.pa,x.pl,x.next,x.iface,x.discard,x.admin,0⟩) ⟨lit rfl,zCe (by omega)⟩ (.inr (by decide)) (st_eq rfl (by simp only[stF_st,zAo,A.1]) A.2))
 (.os (key:=[116,97,103]) (fun h=>⟨lit rfl,zCe (by omega)⟩) (.inr (by decide)) (fun h=>st_eq rfl (by simp only[stF_st,zAo,T.1]) T.2) (fun h=>by rw[←zFx h])))⟩
theorem rd_reads{f:Fm}{typed:Bool}{put:(Rd→Rd)→Rt→Rt}{st:Rd→Rt}{t0:Int}(hf:∀r p,fmS f false r p=redF' typed put r p)(hp:∀g y,put g (st y)=st (g y))(x:Rd)(m0:Int)
  (hm:0≤x.metric∧x.metric≤16777215) (ht:0≤x.tag∧x.tag≤65535) (hn:x.map=[]∨nameB x.map=true) (hy:x.typ≠0→typed=true∧1≤x.typ∧x.typ≤2) (hz:x.typ=0→t0=0) :
  ∃P', Reads f (fun _=>False) P' (rdK x) (st ⟨x.frm,m0,0,[],t0⟩) (st x):=by
 have M:=zCw [] false hm.1 hm.1 hm.2 (by decide);have T:=zCw [] false ht.1 ht.1 ht.2 (by decide)
 exact⟨_,
 (.app (.st (key:=[109,101,116,114,105,99]) (r' := st ⟨x.frm,x.metric,0,[],t0⟩) ⟨lit rfl,zCe (by omega)⟩ (.inr (by decide)) (st_eq ((hf _ _).trans rfl) (by simp only[hp,zAo,M.1]) M.2))
 (.app (.os (key:=[116,97,103]) (r' := st ⟨x.frm,x.metric,x.tag,[],t0⟩) (fun h=>⟨lit rfl,zCe (by omega)⟩) (.inr (by decide)) (fun h=>st_eq ((hf _ _).trans rfl) (by simp only[hp,zAo,T.1]) T.2) (fun h=>by rw[zFx h]))
 (.app (.os (key:=[112,111,108,105,99,121]) (r' := st ⟨x.frm,x.metric,x.tag,x.map,t0⟩) (fun h=>⟨lit rfl,zDa (nm_of hn h)⟩) (.inr (by decide)) (fun h=>st_eq ((hf _ _).trans rfl) (by simp only[hp,zAo,nmV,zEn]) (zFj _ _ (nm_of hn h)).2) (fun h=>by rw[zKi h]))
 (.os (key:=[116,121,112,101]) (fun h=>⟨lit rfl,zCe (by have:=hy (ne_of h);omega)⟩) (.inr (by decide)) (fun h=>by
  obtain⟨rfl,h1,h2⟩:=hy (ne_of h);have Y:=zCw [] false (n:=x.typ) (by omega) h1 h2 (by decide)
  exact st_eq ((hf _ _).trans rfl) (by simp only[hp,zAo,Y.1]) Y.2) (fun h=>by rw[hz (zFx h),←zFx h])))))⟩
def stN(s:Rt)(l:List Nb)(y:Nb):Rt:={ s with nb:=l++[y] }
theorem nbF_st(g:Nb→Nb)(s:Rt)(l:List Nb)(y:Nb):nbF' g (stN s l y)=stN s l (g y):=by simp only[nbF', stN,zEi]
theorem nb_reads(s:Rt)(l:List Nb)(x:Nb)(ha:1≤x.asn∧x.asn≤65535)(hi:x.inn=[]∨nameB x.inn=true)(ho:x.out=[]∨nameB x.out=true) :
  ∃P', Reads .neighbor (fun _=>False) P' (nbK x) (stN s l ⟨x.addr,0,[],[]⟩) (stN s l x):=by
 have A:=zCw [] false (Int.le_trans (by decide) ha.1) ha.1 ha.2 (by decide)
 exact⟨_,.app (.st (key:=[97,115]) (r' := stN s l ⟨x.addr,x.asn,[],[]⟩) ⟨lit rfl,zCe (by omega)⟩ (.inr (by decide)) (st_eq rfl (by simp only[nbF_st,zAo,A.1]) A.2))
 (.app (.os (key:=[105,109,112,111,114,116]) (r' := stN s l ⟨x.addr,x.asn,x.inn,[]⟩) (fun h=>⟨lit rfl,zDa (nm_of hi h)⟩) (.inr (by decide)) (fun h=>st_eq rfl (by simp only[nbF_st,zAo,nmV,zEn]) (zFj _ _ (nm_of hi h)).2) (fun h=>by rw[zKi h]))
 (.os (key:=[101,120,112,111,114,116]) (fun h=>⟨lit rfl,zDa (nm_of ho h)⟩) (.inr (by decide)) (fun h=>st_eq rfl (by simp only[nbF_st,zAo,nmV,zEn]) (zFj _ _ (nm_of ho h)).2) (fun h=>by rw[←zKi h])))⟩
def stP(s:Rt)(l:List PList)(m:List UInt8)(rs:List PRule):Rt:={ s with lists:=l++[⟨m,.slice none 0 0,rs⟩] }
theorem plF_st(x:PRule)(s:Rt)(l:List PList)(m:List UInt8)(rs:List PRule):plF x (stP s l m rs)=stP s l m (rs++[x]):=by simp only[plF,stP,zEi]
theorem pr_ok{x:PRule}(h:zEx x=true):zAk x.pa x.pl=true∧x.pl≤x.min∧x.min≤x.max∧x.max≤32:=by
 simp only[zEx,Bool.and_eq_true,Bool.not_eq_true', decide_eq_false_iff_not,Int.not_lt]at h;exact⟨h.1.1.1,h.1.1.2,h.1.2,h.2⟩
theorem bounds_back{x:PRule}(h:zEx x=true):zFb x.pl ⟨zDk x,false⟩=(x.min,x.max,⟨[],false⟩):=by
 obtain⟨hv,h1,h2,h3⟩:=pr_ok h;have h0:=(zLo hv).1;obtain⟨p,pa,pl,min,max⟩:=x;simp only at h0 h1 h2 h3;unfold zDk;simp only;by_cases e1:min=pl
 ·subst e1
  rw[if_pos (by simp)];by_cases e2:max=min
  ·subst e2
   rw[if_pos (by simp)];rfl
  ·rw[if_neg (by simpa using e2)]
   by_cases e3:max=32
   ·subst e3
    rfl
   ·rw[if_neg (by simpa using e3)]
    have B:=zCw [] false (n:=max) (by omega) (show 0≤max by omega) h3 (by decide);exact(show zFb min ⟨[[117,112,116,111],decI max],false⟩=(min,noV 0 32 ⟨[decI max],false⟩,noS 0 32 ⟨[decI max],false⟩)from rfl).trans (by rw[B.1,B.2])
 ·rw[if_neg (by simpa using e1)]
  have B:=zCw [decI max] false (n:=min) (by omega) (show 0≤min by omega) (show min≤32 by omega) (by decide);have C:=zCw [] false (n:=max) (by omega) (show 0≤max by omega) h3 (by decide);refine(show zFb pl ⟨[[114,97,110,103,101],decI min,decI max],false⟩=(noV 0 32 ⟨[decI min,decI max],false⟩,noV 0 32 (noS 0 32 ⟨[decI min,decI max],false⟩),noS 0 32 (noS 0 32 ⟨[decI min,decI max],false⟩))from rfl).trans ?_;rw[B.1,B.2,C.1,C.2]
theorem pr_reads(s:Rt)(l:List PList)(m:List UInt8)(rs:List PRule)(x:PRule)(hx:zEx x=true)(hf:x.fit)(P:KP) :
  Reads .prefixRules P (fun k=>k=[]∨P k) [prN x] (stP s l m rs) (stP s l m (rs++[x])):=by
 have B:=bounds_back hx;obtain⟨hv,_⟩:=pr_ok hx;have X:=zIh (zDk x) false hf hv
 have hw:chB [112,101,114,109,105,116] [100,101,110,121] ⟨(if x.permit then [112,101,114,109,105,116]else [100,101,110,121]) :: pfxF x.pa x.pl :: zDk x,false⟩=x.permit∧chS [112,101,114,109,105,116] [100,101,110,121] ⟨(if x.permit then [112,101,114,109,105,116]else [100,101,110,121]) :: pfxF x.pa x.pl :: zDk x,false⟩=⟨pfxF x.pa x.pl :: zDk x,false⟩:=by
  cases x.permit
  ·exact⟨rfl,rfl⟩
  ·exact⟨rfl,rfl⟩
 refine .st ?_ (.inl rfl) ?_
 ·unfold zDk
  have hp:=zIb hv;cases x.permit<;>(repeat' split)<;>first|exact⟨lit rfl,hp,lit rfl⟩|exact⟨lit rfl,hp,lit rfl,zCe (by omega)⟩|exact⟨lit rfl,hp,lit rfl,zCe (by omega),zCe (by omega)⟩
 simp only[fmS,zFk,hw.1,hw.2,X.1,X.2,B,plF_st]
theorem tr_back{x:Tr}(hx:zBg x=true)(hf:x.fit)(hl:x.kind=2→nameB x.list=true):natF ⟨trW x,false⟩=(x,⟨[],false⟩)∧okWs (trW x):=by
 obtain⟨kind,ins,outs,proto,iport,oport,list,lo,hi⟩:=x;obtain⟨f1,f2,f3,f4⟩:=hf;simp only at f1 f2 f3 f4 hl;simp only[zBg]at hx;split at hx
 ·rename_i hk
  subst hk;simp only[sameS,Bool.and_eq_true,beq_iff_eq,List.isEmpty_iff]at hx;obtain⟨⟨⟨⟨⟨⟨⟨rfl,rfl⟩,rfl⟩,rfl⟩,rfl⟩,rfl⟩,_⟩,_⟩:=hx;have A:=zIm [fmtA outs] false f1;have B:=zIm [] false f2;refine⟨(show natF ⟨[[115,116,97,116,105,99],fmtA ins,fmtA outs],false⟩=(⟨1,adV ⟨[fmtA ins,fmtA outs],false⟩,adV (adS ⟨[fmtA ins,fmtA outs],false⟩),0,0,0,[],0,0⟩,adS (adS ⟨[fmtA ins,fmtA outs],false⟩))from rfl).trans (by rw[A.1,A.2,B.1,B.2]),?_⟩;exact⟨lit rfl,zIi _,zIi _⟩
 ·split at hx
  ·rename_i _ hk
   subst hk;simp only[sameP,Bool.and_eq_true,beq_iff_eq,decide_eq_true_eq]at hx;obtain⟨⟨⟨⟨⟨⟨⟨rfl,rfl⟩,rfl⟩,rfl⟩,rfl⟩,_⟩,_⟩,_⟩:=hx;have N:=zFj [fmtA lo,fmtA hi] false (hl rfl);have A:=zIm [fmtA hi] false f3;have B:=zIm [] false f4;refine⟨(show natF ⟨[[112,111,111,108],list,fmtA lo,fmtA hi],false⟩=(⟨2,0,0,0,0,0,nmV ⟨[list,fmtA lo,fmtA hi],false⟩,adV (nmS ⟨[list,fmtA lo,fmtA hi],false⟩),adV (adS (nmS ⟨[list,fmtA lo,fmtA hi],false⟩))⟩,adS (adS (nmS ⟨[list,fmtA lo,fmtA hi],false⟩)))from rfl).trans (by rw[N.1,N.2,A.1,A.2,B.1,B.2]),?_⟩;exact⟨lit rfl,zDa (hl rfl),zIi _,zIi _⟩
  ·split at hx
   ·rename_i _ _ hk
    subst hk;simp only[Bool.and_eq_true,beq_iff_eq,List.isEmpty_iff]at hx;obtain⟨⟨⟨⟨⟨⟨⟨h1,h2⟩,h3⟩,h4⟩,h5⟩,rfl⟩,rfl⟩,rfl⟩:=hx;have i1:=zAm h4;have i2:=zAm h5;have hp:proto=6∨proto=17:=by simpa using h3
    have A:=zIm [decI oport,fmtA ins,decI iport] false f2;have B:=zCw [fmtA ins,decI iport] false i2.1 i2.1 i2.2 (by decide);have C:=zIm [decI iport] false f1;have D:=zCw [] false i1.1 i1.1 i1.2 (by decide)
    have hw:chS [116,99,112] [117,100,112] ⟨[protW proto,fmtA outs,decI oport,fmtA ins,decI iport],false⟩=⟨[fmtA outs,decI oport,fmtA ins,decI iport],false⟩∧(if chB [116,99,112] [117,100,112] ⟨[protW proto,fmtA outs,decI oport,fmtA ins,decI iport],false⟩then(6:Int)else 17)=proto:=by
     rcases hp with rfl|rfl
     ·exact⟨rfl,rfl⟩
     ·exact⟨rfl,rfl⟩
    refine⟨(show natF ⟨[[102,111,114,119,97,114,100],protW proto,fmtA outs,decI oport,fmtA ins,decI iport],false⟩=(let q1:=chS [116,99,112] [117,100,112] ⟨[protW proto,fmtA outs,decI oport,fmtA ins,decI iport],false⟩;let q2:=adS q1;let q3:=noS 0 65535 q2;let q4:=adS q3;(⟨3,adV q3,adV q1,if chB [116,99,112] [117,100,112] ⟨[protW proto,fmtA outs,decI oport,fmtA ins,decI iport],false⟩then 6 else 17,noV 0 65535 q4,noV 0 65535 q2,[],0,0⟩,noS 0 65535 q4))from rfl).trans ?_,?_⟩
    ·simp only[hw.1,hw.2,A.1,A.2,B.1,B.2,C.1,C.2,D.1,D.2]
    ·exact⟨lit rfl,(prot_back [] false (n:=proto) (by omega) (by omega)).2.2,zIi _,zCe (n:=oport) (by omega),zIi _,zCe (n:=iport) (by omega)⟩
   ·cases hx
theorem idx_hit{α:Type}{p:α→Bool}:∀{l:List α} {i:Nat},¬idxF p l i<0→∃x∈l,p x=true
 |[],_,h=>by unfold idxF at h;exact absurd (by decide) h
 |y :: r,i,h=>by
  unfold idxF at h;cases hp:p y with
  |true=>exact⟨y,List.mem_cons_self,hp⟩
  |false=>
   rw[hp]at h;obtain⟨x,hx,h2⟩:=idx_hit h;exact⟨x,List.mem_cons_of_mem _ hx,h2⟩
theorem name_in{α:Type}{name:α→List UInt8}{l:List α}(hv:∀x∈l,nameB (name x)=true){n:List UInt8}(h:¬idxF (fun y=>name y==n) l 0<0):nameB n=true:=by
 obtain⟨x,hx,h2⟩:=idx_hit h;have:=hv x hx
 rwa [eq_of_beq h2]at this
theorem zOg{α:Type}{name:α→List UInt8}{l:List α}(hv:∀x∈l,nameB (name x)=true){n:List UInt8}(h:zAs name l n=false):n=[]∨nameB n=true:=by
 cases n with
 |nil=>exact .inl rfl
 |cons a b=>
  right
  refine name_in hv ?_;simpa [zAs] using h
theorem two_has{α:Type}{name:α→List UInt8}{l:List α}(hv:∀x∈l,nameB (name x)=true){m n:List UInt8}(h:(if zAs name l m||zAs name l n then(5:Int)else 0)=0):(m=[]∨nameB m=true)∧(n=[]∨nameB n=true):=by
 cases h1:zAs name l m with
 |true=>rw[h1]at h;cases h
 |false=>cases h2:zAs name l n with
  |true=>rw[h1,h2]at h;cases h
  |false=>exact⟨zOg hv h1,zOg hv h2⟩
def Top(K W:List (List UInt8)):KP:=fun k=>k∈K∨∃w∈W,∃x,k=nmK w x
def bare1(w:List UInt8):Bool:=!w.contains 32
theorem nmK_inj:∀{a a' b b' : List UInt8},bare1 a=true→bare1 a' = true→nmK a b=nmK a' b' → a=a' ∧ b=b'
 |[],[],b,b', _,_,h=>by simpa [nmK] using h
 |[],y :: a', b,b', _,h2,h=>by
  simp only[nmK,List.nil_append,List.cons_append,List.cons.injEq]at h;rw[←h.1]at h2;cases h2
 |y :: a,[],b,b', h2,_,h=>by
  simp only[nmK,List.nil_append,List.cons_append,List.cons.injEq]at h;rw[h.1]at h2;cases h2
 |x :: a,y :: a', b,b', h1,h2,h=>by
  have e:∀(z:UInt8) (t:List UInt8),bare1 (z :: t)=true→bare1 t=true:=fun z t ht=>by
   simp only[bare1,List.contains_cons,Bool.not_or,Bool.and_eq_true]at ht⊢;exact ht.2
  simp only[nmK,List.cons_append,List.cons.injEq]at h;obtain⟨h3,h4⟩:=nmK_inj (e _ _ h1) (e _ _ h2) h.2;exact⟨by rw[h.1,h3],h4⟩
theorem nmK_not{k w x:List UInt8}(h:bare1 k=true):k≠nmK w x:=by
 rintro rfl;simp[bare1,nmK]at h
theorem zGc{K W:List (List UInt8)}{k:List UInt8}(hk:k∉K)(hb:bare1 k=true):¬Top K W k:=by
 rintro(h|⟨w,_,x,h⟩)
 ·exact hk h
 ·exact nmK_not hb h
theorem fresh_pair{K W:List (List UInt8)}{w:List UInt8}(hK:K.all bare1=true)(hW:W.all bare1=true)(hw:w∉W)(hb:bare1 w=true)(x:List UInt8):¬Top K W (nmK w x):=by
 rintro(h|⟨v,hv,y,h⟩)
 ·exact nmK_not (List.all_eq_true.1 hK _ h) rfl
 ·obtain⟨rfl,_⟩:=nmK_inj hb (List.all_eq_true.1 hW v hv) h
  exact hw hv
theorem zEl{K W:List (List UInt8)}{w:List UInt8}:∀k,k=w∨Top K W k→Top (w :: K) W k:=by
 rintro k (rfl|h|h)
 ·exact .inl List.mem_cons_self
 ·exact .inl (List.mem_cons_of_mem _ h)
 ·exact .inr h
theorem top_pair{α:Type}{K W:List (List UInt8)}{w:List UInt8}{key:α→List UInt8}{l:List α}:∀k,(Top K W k∨∃y∈l,k=nmK w (key y))→Top K (w :: W) k:=by
 rintro k ((h|⟨v,hv,h⟩)|⟨y,_,h⟩)
 ·exact .inl h
 ·exact .inr ⟨v,List.mem_cons_of_mem _ hv,h⟩
 ·exact .inr ⟨w,List.mem_cons_self,_,h⟩
theorem zEq{α:Type}{f:Fm}{K W:List (List UInt8)}(w:List UInt8)(nd:α→Nd)(key:α→List UInt8)(st:List α→Rt)(l:List α)(hK:K.all bare1=true)(hW:W.all bare1=true)(hw:w∉W)(hb:bare1 w=true)
  (hd:∀k (hk:k<l.length),∀j (hj:j<l.length),j<k→key l[k]≠key l[j])
  (h:∀a x,x∈l→∀P1:KP,¬P1 (nmK w (key x))→Reads f P1 (fun k=>k=nmK w (key x)∨P1 k) [nd x] (st a) (st (a++[x]))) :
  Reads f (Top K W) (Top K (w :: W)) (l.map nd) (st []) (st l):=by
 refine(zGq (P:=Top K W) nd (fun x=>nmK w (key x)) st l fun a x c e P1 hP=>h a x (by rw[e];simp) P1 fun h1=>?_).imp top_pair;rcases hP _ h1 with h2|⟨y,hy,h2⟩
 ·exact fresh_pair hK hW hw hb _ h2
 ·exact apart (c:=fun u v=>key u≠key v) hd e y hy (nmK_inj hb hb h2).2
theorem sys_reads{K W:List (List UInt8)}(s r:Rt)(hk:[115,121,115,116,101,109]∉K)(hn:nameB r.name=true)(ha:0≤r.asn∧r.asn≤65535)(h1:s.asn=0):Reads .top (Top K W) (Top ([115,121,115,116,101,109] :: K) W) (sysN r) s { s with name:=r.name,asn:=r.asn }:=by
 refine(Reads.bl (ws:=[[115,121,115,116,101,109]]) (key:=[115,121,115,116,101,109]) (P2:=fun _=>True) (lit rfl) (.inr (zGc hk (by decide))) rfl ?_).imp zEl;have A:=fun h:r.asn≠0=>zCw [] false (n:=r.asn) (lo:=1) ha.1 (by omega) ha.2 (by decide)
 refine Reads.imp (.app (.st (key:=[104,111,115,116,45,110,97,109,101]) (r' := { s with name:=r.name }) ⟨lit rfl,zDa hn⟩ (.inr id) (st_eq rfl (by simp only[nmV,zAo,zEn]) (zFj _ _ hn).2))
  (.os (key:=[97,117,116,111,110,111,109,111,117,115,45,115,121,115,116,101,109]) (fun h=>⟨lit rfl,zCe (by omega)⟩) (.inr (by decide)) (fun h=>st_eq rfl (by simp only[zAo,(A (ne_of h)).1]) (A (ne_of h)).2) (fun h=>by rw[zFx h,←h1]))) fun _ _=>trivial
theorem ifs_reads{K W:List (List UInt8)}(s:Rt)(l:List If)(hk:[105,110,116,101,114,102,97,99,101,115]∉K)(h:ifsE l=0)(hf:∀x∈l,x.fit)(hn:∀x∈l,(x.inn=[]∨nameB x.inn=true)∧(x.out=[]∨nameB x.out=true))(he:s.ifs=[]) :
  Reads .top (Top K W) (Top ([105,110,116,101,114,102,97,99,101,115] :: K) W) (ifsN l) s { s with ifs:=l }:=by
 unfold ifsN;cases hl:l.isEmpty with
 |true=>
  rw[List.isEmpty_iff.1 hl,if_pos rfl,show({ s with ifs:=[] }:Rt)=s by rw[←he]];exact .nil fun _ h=>zEl _ (.inr h)
 |false=>
  rw[if_neg (by simp)];obtain⟨_,h2⟩:=ifs_ok h;refine(Reads.bl (ws:=[[105,110,116,101,114,102,97,99,101,115]]) (key:=[105,110,116,101,114,102,97,99,101,115]) (P2:=fun k=>False∨∃y∈l,k=y.name) (lit rfl) (.inr (zGc hk (by decide))) rfl ?_).imp zEl;refine(show s={ s with ifs:=[] } by rw[←he]) ▸ zGq (P:=fun _=>False) ifN (·.name) (fun a=>{ s with ifs:=a }) l fun a x c e P1 hP=>?_
  have hx:x∈l:=by rw[e];simp
  obtain⟨k,hk,rfl⟩:=List.getElem_of_mem hx;obtain⟨h3,_,h4,_⟩:=h2 k hk;obtain⟨P', R⟩:=if_reads s a l[k] h4 (hf _ hx) (hn _ hx).1 (hn _ hx).2;refine .bl (zDa h3) (.inr fun h=>?_) (st_eq rfl rfl (zFj _ _ h3).2) R;rcases hP _ h with h|⟨y,hy,h⟩
  ·exact h
  ·exact apart (c:=fun u v=>u.name≠v.name) (fun k hk j hj hjk=>Ne.symm (by simpa using (h2 k hk).2.1 j hj hjk)) e y hy h
theorem lists_reads{K W:List (List UInt8)}(s:Rt)(l:List PList)(hK:K.all bare1=true)(hW:W.all bare1=true)(hw:[112,114,101,102,105,120,45,108,105,115,116]∉W)(h:plsE l=0)(hf:∀x∈l,x.fit)(he:s.lists=[]) :
  Reads .top (Top K W) (Top K ([112,114,101,102,105,120,45,108,105,115,116] :: W)) (l.map listN) s { s with lists:=l.map erP }:=by
 obtain⟨_,h2⟩:=ls_ok h;refine(show s={ s with lists:=([]:List PList).map erP } by rw[List.map_nil,←he]) ▸ zEq [112,114,101,102,105,120,45,108,105,115,116] listN (·.name) (fun a=>{ s with lists:=a.map erP }) l hK hW hw (by decide) (fun k hk j hj hjk=>Ne.symm (by simpa using (h2 k hk).2.1 j hj hjk)) fun a x hx P1 hP=>?_
 obtain⟨k,hk,rfl⟩:=List.getElem_of_mem hx;obtain⟨h3,_,_,_,h4⟩:=h2 k hk;refine .bl (P2:=fun q=>False∨∃y∈l[k].rules,q=[]) ⟨lit rfl,zDa h3⟩ (.inr hP) (st_eq (r' := stP { s with lists:=a.map erP } (a.map erP) l[k].name []) rfl rfl (zFj _ _ h3).2) ?_;rw[show({ s with lists:=(a++[l[k]]).map erP }:Rt)=stP { s with lists:=a.map erP } (a.map erP) l[k].name l[k].rules by simp[stP,erP]]
 exact zGq (P:=fun _=>False) prN (fun _=>[]) (stP { s with lists:=a.map erP } (a.map erP) l[k].name) l[k].rules fun b y c e P1 _=>pr_reads _ _ _ b y (by
  have:=zHb h4 y (by rw[e];simp);simp only[prE]at this;by_cases hr:zEx y=true
  ·exact hr
  ·rw[if_neg hr]at this;cases this) (hf _ hx y (by rw[e];simp)) P1
theorem maps_reads{K W:List (List UInt8)}(s:Rt)(ls:List PList)(l:List RMap)(hK:K.all bare1=true)(hW:W.all bare1=true)(hw:[112,111,108,105,99,121]∉W)(hv:∀x∈ls,nameB x.name=true)(h:mapsE ls l=0)(he:s.maps=[]) :
  Reads .top (Top K W) (Top K ([112,111,108,105,99,121] :: W)) (l.map mapN) s { s with maps:=l.map erM }:=by
 obtain⟨_,h2⟩:=ls_ok h;refine(show s={ s with maps:=([]:List RMap).map erM } by rw[List.map_nil,←he]) ▸ zEq [112,111,108,105,99,121] mapN (·.name) (fun a=>{ s with maps:=a.map erM }) l hK hW hw (by decide) (fun k hk j hj hjk=>Ne.symm (by simpa using (h2 k hk).2.1 j hj hjk)) fun a x hx P1 hP=>?_
 obtain⟨k,hk,rfl⟩:=List.getElem_of_mem hx;obtain⟨h3,_,_,_,h4⟩:=h2 k hk;refine .bl (P2:=fun q=>False∨∃y∈l[k].clauses,q=[]) ⟨lit rfl,zDa h3⟩ (.inr hP) (st_eq (r' := { s with maps:=a.map erM++[⟨l[k].name,.slice none 0 0,[]⟩] }) rfl rfl (zFj _ _ h3).2) ?_;rw[show({ s with maps:=(a++[l[k]]).map erM }:Rt)={ s with maps:=a.map erM++[⟨l[k].name,.slice none 0 0,l[k].clauses⟩] } by simp[erM]];refine zGq (P:=fun _=>False) clN (fun _=>[]) (fun b=>({ s with maps:=a.map erM++[⟨l[k].name,.slice none 0 0,b⟩] }:Rt)) l[k].clauses fun b y c e P1 _=>?_
 have h5:=zHb h4 y (by rw[e];simp);simp only[clE]at h5
 have h6:(y.list=[]∨nameB y.list=true)∧zDj y=true:=by
  split at h5
  ·cases h5
  ·rename_i h7
   split at h5
   ·rename_i h8
    refine⟨?_,h8⟩;refine zOg hv ?_;simpa [zAs] using h7
   ·cases h5
 obtain⟨P', R⟩:=cl_reads s (a.map erM) l[k].name b y h6.2 h6.1;exact .bl (lit rfl) (.inl rfl) (st_eq rfl (by simp only[stC,zEi]) rfl) R
theorem acls_reads{K W:List (List UInt8)}(s:Rt)(l:List AList)(hK:K.all bare1=true)(hW:W.all bare1=true)(hw:[102,105,108,116,101,114]∉W)(h:aclsE l=0)(hf:∀x∈l,x.fit)(he:s.acls=[]) :
  Reads .top (Top K W) (Top K ([102,105,108,116,101,114] :: W)) (l.map aclN) s { s with acls:=l.map erA }:=by
 obtain⟨_,h2⟩:=ls_ok h;refine(show s={ s with acls:=([]:List AList).map erA } by rw[List.map_nil,←he]) ▸ zEq [102,105,108,116,101,114] aclN (·.name) (fun a=>{ s with acls:=a.map erA }) l hK hW hw (by decide) (fun k hk j hj hjk=>Ne.symm (by simpa using (h2 k hk).2.1 j hj hjk)) fun a x hx P1 hP=>?_
 obtain⟨k,hk,rfl⟩:=List.getElem_of_mem hx;obtain⟨h3,_,_,_,h4⟩:=h2 k hk;refine .bl (P2:=fun q=>False∨∃y∈l[k].rules,q=[]) ⟨lit rfl,zDa h3⟩ (.inr hP) (st_eq (r' := { s with acls:=a.map erA++[⟨l[k].name,.slice none 0 0,[]⟩] }) rfl rfl (zFj _ _ h3).2) ?_;rw[show({ s with acls:=(a++[l[k]]).map erA }:Rt)={ s with acls:=a.map erA++[⟨l[k].name,.slice none 0 0,l[k].rules⟩] } by simp[erA]];refine zGq (P:=fun _=>False) ruN (fun _=>[]) (fun b=>({ s with acls:=a.map erA++[⟨l[k].name,.slice none 0 0,b⟩] }:Rt)) l[k].rules fun b y c e P1 _=>?_
 have hy:y∈l[k].rules:=by rw[e];simp
 have h5:=zHb h4 y hy;simp only[ruE]at h5
 have h6:zDc y=true:=by
  by_cases hr:zDc y=true
  ·exact hr
  ·rw[if_neg hr]at h5;cases h5
 obtain⟨P', R⟩:=ru_reads s (a.map erA) l[k].name b y h6 (hf _ hx y hy);exact .bl (lit rfl) (.inl rfl) (st_eq rfl (by simp only[stR,zEi]) rfl) R
theorem natR_ok{acls:List AList}{x:Tr}(h:natE acls x=0)(hv:∀x∈acls,nameB x.name=true):zBg x=true∧(x.kind=2→nameB x.list=true):=by
 unfold natE at h;by_cases h1:zBg x=true
 ·refine⟨h1,fun hk=>?_⟩
  rw[if_pos h1]at h;refine name_in hv fun h2=>?_
  rw[if_pos (by rw[hk,decide_eq_true h2];rfl)]at h;cases h
 ·rw[if_neg h1]at h;cases h
theorem nat_reads{K W:List (List UInt8)}(s:Rt)(acls:List AList)(l:List Tr)(hk:[116,114,97,110,115,108,97,116,105,111,110]∉K)(h:natsE acls l=0)(hf:∀x∈l,x.fit)(hv:∀x∈acls,nameB x.name=true)(he:s.nat=[]) :
  Reads .top (Top K W) (Top ([116,114,97,110,115,108,97,116,105,111,110] :: K) W) (natN l) s { s with nat:=l }:=by
 unfold natN;cases hl:l.isEmpty with
 |true=>
  rw[List.isEmpty_iff.1 hl,if_pos rfl,show({ s with nat:=[] }:Rt)=s by rw[←he]];exact .nil fun _ h=>zEl _ (.inr h)
 |false=>
  rw[if_neg (by simp)];unfold natsE at h;split at h
  ·cases h
  refine(Reads.bl (ws:=[[116,114,97,110,115,108,97,116,105,111,110]]) (key:=[116,114,97,110,115,108,97,116,105,111,110]) (P2:=fun k=>False∨∃y∈l,k=[]) (lit rfl) (.inr (zGc hk (by decide))) rfl ?_).imp zEl;refine(show s={ s with nat:=[] } by rw[←he]) ▸ zGq (P:=fun _=>False) (fun x=>stn (trW x)) (fun _=>[]) (fun a=>({ s with nat:=a }:Rt)) l fun a x c e P1 hP=>?_
  have hx:x∈l:=by rw[e];simp
  obtain⟨h1,h2⟩:=natR_ok (zHb h x hx) hv;obtain⟨h3,h4⟩:=tr_back h1 (hf x hx) h2;exact .st h4 (.inl rfl) (by simp only[fmS,zFn,h3])
theorem stat_reads{K W:List (List UInt8)}(s:Rt)(ifs:List If)(l:List Sr)(hk:[115,116,97,116,105,99]∉K)(h:zLg ifs l=0)(hf:∀x∈l,x.fit)(hv:∀x∈ifs,nameB x.name=true)(he:s.stat=[]) :
  Reads .top (Top K W) (Top ([115,116,97,116,105,99] :: K) W) (statN l) s { s with stat:=l }:=by
 unfold statN;cases hl:l.isEmpty with
 |true=>
  rw[List.isEmpty_iff.1 hl,if_pos rfl,show({ s with stat:=[] }:Rt)=s by rw[←he]];exact .nil fun _ h=>zEl _ (.inr h)
 |false=>
  rw[if_neg (by simp)];obtain⟨_,h2⟩:=zDz (by decide) h;refine(Reads.bl (ws:=[[115,116,97,116,105,99]]) (key:=[115,116,97,116,105,99]) (P2:=fun k=>False∨∃y∈l,k=[]) (lit rfl) (.inr (zGc hk (by decide))) rfl ?_).imp zEl;refine(show s={ s with stat:=[] } by rw[←he]) ▸ zGq (P:=fun _=>False) srN (fun _=>[]) (fun a=>({ s with stat:=a }:Rt)) l fun a x c e P1 hP=>?_
  have hx:x∈l:=by rw[e];simp
  obtain⟨k,hk,rfl⟩:=List.getElem_of_mem hx;have h3:=(h2 k hk).1;unfold staF at h3;by_cases h4:zGv ifs l[k]=true
  ·rw[if_pos h4]at h3
   simp only[zGv,Bool.and_eq_true]at h4;obtain⟨⟨⟨⟨v,c1⟩,_⟩,a1⟩,t1⟩:=h4
   have hi:l[k].iface=[]∨nameB l[k].iface=true:=by
    cases hn:l[k].iface with
    |nil=>exact .inl rfl
    |cons u t=>
     rw[hn]at h3;simp only[List.isEmpty_cons,Bool.false_eq_true,if_false]at h3;refine .inr (name_in hv fun h6=>?_);rw[if_pos h6]at h3;cases h3
   obtain⟨P', R⟩:=sr_reads s a l[k] (by simpa using c1) (hf _ hx).2 hi (zAm a1) (zAm t1);have X:=zIh [] false (hf _ hx).1 v;refine .bl ⟨lit rfl,zIb v⟩ (.inl rfl) (st_eq (r' := { s with stat:=a++[⟨(pxV ⟨[pfxF l[k].pa l[k].pl],false⟩).1,(pxV ⟨[pfxF l[k].pa l[k].pl],false⟩).2,0,[],false,5,0⟩] }) rfl ?_ X.2) R;rw[X.1];rfl
  ·rw[if_neg h4]at h3;cases h3
theorem red_ok{maps:List RMap}{into least most types:Int}{x:Rd}(h:redF maps into least most types x=0)(hv:∀x∈maps,nameB x.name=true) :
  (1≤x.frm∧x.frm≤5)∧(least≤x.metric∧x.metric≤most)∧(0≤x.tag∧x.tag≤65535)∧(min 1 types≤x.typ∧x.typ≤types)∧(x.map=[]∨nameB x.map=true):=by
 unfold redF at h;split at h
 ·rename_i h1
  simp only[Bool.and_eq_true]at h1;obtain⟨⟨⟨⟨h1,_⟩,h2⟩,h3⟩,h4⟩:=h1;refine⟨zAm h1,zAm h2,zAm h3,zAm h4,?_⟩;cases hl:zAs (·.name) maps x.map with
  |true=>rw[hl]at h;cases h
  |false=>exact zOg hv hl
 ·cases h
theorem rds_reads{f g:Fm}{K W:List (List UInt8)}{typed:Bool}{put:(Rd→Rd)→Rt→Rt}{st:List Rd→Rt}{m0 t0:Int}{maps:List RMap}{into least most types:Int}(l:List Rd)(hK:K.all bare1=true)(hW:W.all bare1=true)(hw:[105,109,112,111,114,116]∉W)
  (hf:∀r p,fmS g false r p=redF' typed put r p) (hp:∀a h y,put h (st (a++[y]))=st (a++[h y]))
  (hi:∀a w,fmS f true (st a) ⟨[[105,109,112,111,114,116],w],false⟩=(nmK [105,109,112,111,114,116] (srcN (srcV ⟨[w],false⟩)),some g,st (a++[⟨srcV ⟨[w],false⟩,m0,0,[],t0⟩]),srcS ⟨[w],false⟩))
  (hb:0≤least∧most≤16777215) (ht:types=2∧typed=true∨types=0∧t0=0) (h:redE maps into least most types l=0) (hv:∀x∈maps,nameB x.name=true) :
  Reads f (Top K W) (Top K ([105,109,112,111,114,116] :: W)) (l.map rdN) (st []) (st l):=by
 obtain⟨_,h2⟩:=zDz (by decide) h;refine zEq [105,109,112,111,114,116] rdN (fun x=>srcN x.frm) st l hK hW hw (by decide) (fun k hk j hj hjk e=>?_) fun a x hx P1 hP=>?_
 ·have c:=(h2 k hk).2 j hj hjk
  have b1:=(red_ok (h2 k hk).1 hv).1;have b2:=(red_ok (h2 j hj).1 hv).1;have e1:=(src_back [] false b1.1 b1.2).1;have e2:=(src_back [] false b2.1 b2.2).1;rw[e,e2]at e1;rw[zCo,e1]at c;simp at c
 ·obtain⟨k,hk,rfl⟩:=List.getElem_of_mem hx
  obtain⟨b1,b2,b3,b4,b5⟩:=red_ok (h2 k hk).1 hv;obtain⟨s1,s2,s3⟩:=src_back [] false b1.1 b1.2
  obtain⟨P', R⟩:=rd_reads (st:=fun y=>st (a++[y])) (t0:=t0) hf (fun h y=>hp a h y) l[k] m0 ⟨by omega,by omega⟩ b3 b5 (fun h0=>by
   rcases ht with⟨rfl,h1⟩|⟨rfl,_⟩
   ·exact⟨h1,by omega,b4.2⟩
   ·omega) (fun h0=>by
   rcases ht with⟨rfl,h1⟩|⟨_,h1⟩
   ·omega
   ·exact h1)
  exact .bl ⟨lit rfl,s3⟩ (.inr (by rw[show nmK [105,109,112,111,114,116] (srcN l[k].frm)=nmK [105,109,112,111,114,116] (srcN l[k].frm)from rfl];exact hP)) ((hi a _).trans (by rw[s1,s2])) R
theorem zFq{c:Prop}[Decidable c]{a:Int}(h:(if c then a else 1)=0):c∧a=0:=by
 split at h
 ·rename_i hc;exact⟨hc,h⟩
 ·cases h
theorem zDp{α:Type}{l:List α}(h:decide ((0:Int)<l.length)=false):l=[]:=by
 cases l with
 |nil=>rfl
 |cons a b=>simp at h
theorem ls_reads{K W:List (List UInt8)}(s r:Rt)(hk:[108,105,110,107,45,115,116,97,116,101]∉K)(h:lnkE r=0)(hf:∀x∈r.ranges,x.fit)(hv:∀x∈r.maps,nameB x.name=true)(h0:s.lsOn=false)(h1:s.lsAdmin=0)(h2:s.ranges=[])(h3:s.lsRed=[]) :
  Reads .top (Top K W) (Top ([108,105,110,107,45,115,116,97,116,101] :: K) W) (lsN r) s { s with lsOn:=r.lsOn,lsAdmin:=r.lsAdmin,ranges:=r.ranges,lsRed:=r.lsRed }:=by
 unfold lnkE at h;unfold lsN;cases ho:r.lsOn with
 |false=>
  rw[ho,if_neg (by decide)]at h
  have h4:(!(r.lsAdmin==0)||decide ((0:Int)<r.ranges.length)||decide ((0:Int)<r.lsRed.length))=false:=by
   rw[←Bool.not_eq_true];intro e;rw[if_pos e]at h;cases h
  simp only[Bool.or_eq_false_iff]at h4;rw[zFx h4.1.1,zDp h4.1.2,zDp h4.2,show({ s with lsOn:=false,lsAdmin:=0,ranges:=[],lsRed:=[] }:Rt)=s by cases s;simp only at h0 h1 h2 h3;subst h0 h1 h2 h3;rfl];exact .nil fun _ h=>zEl _ (.inr h)
 |true=>
  rw[ho,if_pos rfl]at h;obtain⟨hw,h⟩:=zFq h;obtain⟨h5,h6⟩:=zCc h;have A:=zAm hw;have N:=zCw [] false (Int.le_trans (by decide) A.1) A.1 A.2 (by decide);refine(Reads.bl (ws:=[[108,105,110,107,45,115,116,97,116,101]]) (key:=[108,105,110,107,45,115,116,97,116,101]) (P2:=Top [[],[112,114,101,102,101,114,101,110,99,101]] [[105,109,112,111,114,116]]) (lit rfl) (.inr (zGc hk (by decide))) rfl ?_).imp zEl;refine .cons (P' := Top [[112,114,101,102,101,114,101,110,99,101]] []) (r' := { s with lsOn:=true,lsAdmin:=r.lsAdmin }) ((Reads.st (ws:=[[112,114,101,102,101,114,101,110,99,101],decI r.lsAdmin]) (key:=[112,114,101,102,101,114,101,110,99,101]) ⟨lit rfl,zCe (by omega)⟩ (.inr id) (st_eq rfl (by simp only[zAo,N.1]) N.2)).imp ?_) ?_
  ·rintro k (rfl|h)
   ·exact .inl List.mem_cons_self
   ·exact h.elim
  refine .app (P' := Top [[],[112,114,101,102,101,114,101,110,99,101]] []) (r' := { s with lsOn:=true,lsAdmin:=r.lsAdmin,ranges:=r.ranges }) ?_ ?_
  ·refine(show({ s with lsOn:=true,lsAdmin:=r.lsAdmin }:Rt)={ s with lsOn:=true,lsAdmin:=r.lsAdmin,ranges:=[] } by rw[←h2]) ▸ (zGq (P:=Top [[112,114,101,102,101,114,101,110,99,101]] []) (fun a:AR=>stn [[114,97,110,103,101],decI a.area,pfxF a.pa a.pl]) (fun _=>[]) (fun a=>({ s with lsOn:=true,lsAdmin:=r.lsAdmin,ranges:=a }:Rt)) r.ranges fun a x c e P1 hP=>?_).imp ?_
   ·have hx:x∈r.ranges:=by rw[e];simp
    obtain⟨k,hk,rfl⟩:=List.getElem_of_mem hx;have h7:=((zDz (by decide) h5).2 k hk).1;unfold arF at h7
    obtain⟨h8,_⟩:(zAb r.ranges[k].area 0 255&&zAk r.ranges[k].pa r.ranges[k].pl)=true∧True:=by
     by_cases hc:(zAb r.ranges[k].area 0 255&&zAk r.ranges[k].pa r.ranges[k].pl)=true
     ·exact⟨hc,trivial⟩
     ·rw[if_neg hc]at h7;cases h7
    rw[Bool.and_eq_true]at h8;have B:=zAm h8.1;have N2:=zCw [pfxF r.ranges[k].pa r.ranges[k].pl] false B.1 B.1 B.2 (by decide);have X:=zIh [] false (hf _ hx) h8.2;exact .st ⟨lit rfl,zCe (by omega),zIb h8.2⟩ (.inl rfl) (st_eq rfl (by simp only[zAo,N2.1,N2.2,X.1]) (by simp only[zAo,N2.2,X.2]))
   ·rintro k (h|⟨y,_,rfl⟩)
    ·exact zEl _ (.inr h)
    ·exact .inl List.mem_cons_self
  ·refine(show({ s with lsOn:=true,lsAdmin:=r.lsAdmin,ranges:=r.ranges }:Rt)={ s with lsOn:=true,lsAdmin:=r.lsAdmin,ranges:=r.ranges,lsRed:=[] } by rw[←h3]) ▸ rds_reads (f:=.linkState) (g:=.redLS) (typed:=true) (put:=fun g r=>{ r with lsRed:=lastF g r.lsRed }) (st:=fun a=>({ s with lsOn:=true,lsAdmin:=r.lsAdmin,ranges:=r.ranges,lsRed:=a }:Rt)) (m0:=0) (t0:=1) r.lsRed (by decide) (by decide) (by decide) (fun _ _=>rfl) (fun a h y=>by simp only[zEi]) (fun a w=>rfl) ⟨by decide,by decide⟩ (.inl ⟨rfl,rfl⟩) h6 hv
theorem dv_reads{K W:List (List UInt8)}(s r:Rt)(hk:[100,105,115,116,97,110,99,101,45,118,101,99,116,111,114]∉K)(h:dvE r=0)(hl:∀x∈r.lists,nameB x.name=true)(hv:∀x∈r.maps,nameB x.name=true)(h0:s.dvOn=false)(h1:s.dvAdmin=0)(h2:s.dvIn=[])(h2' : s.dvOut=[])(h3:s.dvRed=[]) :
  Reads .top (Top K W) (Top ([100,105,115,116,97,110,99,101,45,118,101,99,116,111,114] :: K) W) (dvN r) s { s with dvOn:=r.dvOn,dvAdmin:=r.dvAdmin,dvIn:=r.dvIn,dvOut:=r.dvOut,dvRed:=r.dvRed }:=by
 unfold dvE at h;unfold dvN;cases ho:r.dvOn with
 |false=>
  rw[ho,if_neg (by decide)]at h
  have h4:(!(r.dvAdmin==0) || !r.dvIn.isEmpty || !r.dvOut.isEmpty||decide ((0:Int)<r.dvRed.length))=false:=by
   rw[←Bool.not_eq_true];intro e;rw[if_pos e]at h;cases h
  simp only[Bool.or_eq_false_iff]at h4;rw[zFx h4.1.1.1,zKi h4.1.1.2,zKi h4.1.2,zDp h4.2,show({ s with dvOn:=false,dvAdmin:=0,dvIn:=[],dvOut:=[],dvRed:=[] }:Rt)=s by cases s;simp only at h0 h1 h2 h2' h3;subst h0 h1 h2 h2' h3;rfl];exact .nil fun _ h=>zEl _ (.inr h)
 |true=>
  rw[ho,if_pos rfl]at h;obtain⟨hw,h⟩:=zFq h;obtain⟨h5,h6⟩:=zCc h;obtain⟨hi,ho'⟩:=two_has hl h5;have A:=zAm hw;have N:=zCw [] false (Int.le_trans (by decide) A.1) A.1 A.2 (by decide);refine(Reads.bl (ws:=[[100,105,115,116,97,110,99,101,45,118,101,99,116,111,114]]) (key:=[100,105,115,116,97,110,99,101,45,118,101,99,116,111,114]) (P2:=Top [[111,117,116,112,117,116],[105,110,112,117,116],[112,114,101,102,101,114,101,110,99,101]] [[105,109,112,111,114,116]]) (lit rfl) (.inr (zGc hk (by decide))) rfl ?_).imp zEl;refine .cons (r' := { s with dvOn:=true,dvAdmin:=r.dvAdmin }) (Reads.st (key:=[112,114,101,102,101,114,101,110,99,101]) ⟨lit rfl,zCe (by omega)⟩ (.inr id) (st_eq rfl (by simp only[zAo,N.1]) N.2)) ?_;refine .app (r' := { s with dvOn:=true,dvAdmin:=r.dvAdmin,dvIn:=r.dvIn }) (.os (key:=[105,110,112,117,116]) (fun h=>⟨lit rfl,zDa (nm_of hi h)⟩) (.inr (by decide)) (fun h=>st_eq rfl (by simp only[zAo,nmV,zEn]) (zFj _ _ (nm_of hi h)).2) (fun h=>by rw[zKi h,←h2])) ?_;refine .app (P' := Top [[111,117,116,112,117,116],[105,110,112,117,116],[112,114,101,102,101,114,101,110,99,101]] []) (r' := { s with dvOn:=true,dvAdmin:=r.dvAdmin,dvIn:=r.dvIn,dvOut:=r.dvOut }) ((Reads.os (ws:=[[111,117,116,112,117,116],r.dvOut]) (key:=[111,117,116,112,117,116]) (fun h=>⟨lit rfl,zDa (nm_of ho' h)⟩) (.inr (by decide)) (fun h=>st_eq rfl (by simp only[zAo,nmV,zEn]) (zFj _ _ (nm_of ho' h)).2) (fun h=>by rw[zKi h,←h2'])).imp ?_) ?_
  ·rintro k (rfl|rfl|rfl|h)
   ·exact .inl (by simp)
   ·exact .inl (by simp)
   ·exact .inl (by simp)
   ·exact h.elim
  ·refine(show({ s with dvOn:=true,dvAdmin:=r.dvAdmin,dvIn:=r.dvIn,dvOut:=r.dvOut }:Rt)={ s with dvOn:=true,dvAdmin:=r.dvAdmin,dvIn:=r.dvIn,dvOut:=r.dvOut,dvRed:=[] } by rw[←h3]) ▸ rds_reads (f:=.distance) (g:=.redDV) (typed:=false) (put:=fun g r=>{ r with dvRed:=lastF g r.dvRed }) (st:=fun a=>({ s with dvOn:=true,dvAdmin:=r.dvAdmin,dvIn:=r.dvIn,dvOut:=r.dvOut,dvRed:=a }:Rt)) (m0:=1) (t0:=0) r.dvRed (by decide) (by decide) (by decide) (fun _ _=>rfl) (fun a h y=>by simp only[zEi]) (fun a w=>rfl) ⟨by decide,by decide⟩ (.inr ⟨rfl,rfl⟩) h6 hv
theorem st_eq3{f:Fm}{r r1 r2:Rt}{ws:List (List UInt8)}{key key' : List UInt8}{p p' : Ps}{o:Option Fm}{bl:Bool}(h:fmS f bl r ⟨ws,false⟩=(key,o,r1,p))(hk:key=key')(h1:r1=r2)(h2:p=p'):fmS f bl r ⟨ws,false⟩=(key', o,r2,p'):=by rw[h,hk,h1,h2]
theorem zFg{c:Bool}(h:(if c then(0:Int)else 1)=0):c=true:=by
 cases c with
 |true=>rfl
 |false=>cases h
theorem pfx_inj{p q:Nat}{n m:Int}(hp:p<4294967296)(hq:q<4294967296)(v:zAk p n=true)(u:zAk q m=true)(h:pfxF p n=pfxF q m):p=q∧n=m:=by
 have e1:=pfx_back hp v;have e2:=pfx_back hq u;rw[h,e2]at e1;have:=Option.some.inj e1;exact⟨(congrArg Prod.fst this).symm,(congrArg Prod.snd this).symm⟩
theorem nbs_reads{K W:List (List UInt8)}(s:Rt)(maps:List RMap)(l:List Nb)(hK:K.all bare1=true)(hW:W.all bare1=true)(hw:[110,101,105,103,104,98,111,114]∉W)(h:nbsE maps l=0)(hf:∀x∈l,x.fit)(hv:∀x∈maps,nameB x.name=true)(he:s.nb=[]) :
  Reads .path (Top K W) (Top K ([110,101,105,103,104,98,111,114] :: W)) (l.map nbN) s { s with nb:=l }:=by
 obtain⟨_,h2⟩:=zDz (by decide) h;refine(show s={ s with nb:=[] } by rw[←he]) ▸ zEq [110,101,105,103,104,98,111,114] nbN (fun x=>fmtA x.addr) (fun a=>({ s with nb:=a }:Rt)) l hK hW hw (by decide) (fun k hk j hj hjk e=>?_) fun a x hx P1 hP=>?_
 ·have c:=(h2 k hk).2 j hj hjk
  have e1:=zHo (hf _ (List.getElem_mem hk));have e2:=zHo (hf _ (List.getElem_mem hj));rw[e,e2]at e1;rw[zBc,Option.some.inj e1]at c;simp at c
 ·obtain⟨k,hk,rfl⟩:=List.getElem_of_mem hx
  have h3:=(h2 k hk).1;unfold nbF at h3;split at h3
  ·rename_i h4
   rw[Bool.and_eq_true]at h4;obtain⟨n1,n2⟩:=two_has hv h3;obtain⟨P', R⟩:=nb_reads s a l[k] (zAm h4.2) n1 n2;have A:=zIm [] false (hf _ hx);exact .bl ⟨lit rfl,zIi _⟩ (.inr hP) (st_eq3 rfl (by simp only[zAo,A.1];rfl) (by simp only[zAo,A.1];rfl) A.2) R
  ·cases h3
theorem nets_reads{K W:List (List UInt8)}(s:Rt)(l:List Pf)(hK:K.all bare1=true)(hW:W.all bare1=true)(hw:[110,101,116,119,111,114,107]∉W)(h:netsE l=0)(hf:∀x∈l,x.fit)(he:s.net=[]) :
  Reads .path (Top K W) (Top K ([110,101,116,119,111,114,107] :: W)) (l.map fun p=>stn [[110,101,116,119,111,114,107],pfxF p.pa p.pl]) s { s with net:=l }:=by
 obtain⟨_,h2⟩:=zDz (by decide) h;refine(show s={ s with net:=[] } by rw[←he]) ▸ zEq [110,101,116,119,111,114,107] (fun p:Pf=>stn [[110,101,116,119,111,114,107],pfxF p.pa p.pl]) (fun x=>pfxF x.pa x.pl) (fun a=>({ s with net:=a }:Rt)) l hK hW hw (by decide) (fun k hk j hj hjk e=>?_) fun a x hx P1 hP=>?_
 ·obtain⟨e1,e2⟩:=pfx_inj (hf _ (List.getElem_mem hk)) (hf _ (List.getElem_mem hj)) (zFg (h2 k hk).1) (zFg (h2 j hj).1) e
  have c:=(h2 k hk).2 j hj hjk;rw[zEk,e1,e2]at c;simp at c
 ·obtain⟨k,hk,rfl⟩:=List.getElem_of_mem hx
  have v:=zFg (h2 k hk).1;have X:=zIh [] false (hf _ hx) v;exact .st ⟨lit rfl,zIb v⟩ (.inr hP) (st_eq3 rfl (by simp only[zAo,X.1];rfl) (by simp only[zAo,X.1]) X.2)
theorem ags_reads{K W:List (List UInt8)}(s:Rt)(l:List Ag)(hK:K.all bare1=true)(hW:W.all bare1=true)(hw:[97,103,103,114,101,103,97,116,101]∉W)(h:agsE l=0)(hf:∀x∈l,x.fit)(he:s.ag=[]) :
  Reads .path (Top K W) (Top K ([97,103,103,114,101,103,97,116,101] :: W)) (l.map agN) s { s with ag:=l }:=by
 obtain⟨_,h2⟩:=zDz (by decide) h;refine(show s={ s with ag:=[] } by rw[←he]) ▸ zEq [97,103,103,114,101,103,97,116,101] agN (fun x=>pfxF x.pa x.pl) (fun a=>({ s with ag:=a }:Rt)) l hK hW hw (by decide) (fun k hk j hj hjk e=>?_) fun a x hx P1 hP=>?_
 ·obtain⟨e1,e2⟩:=pfx_inj (hf _ (List.getElem_mem hk)) (hf _ (List.getElem_mem hj)) (zFg (h2 k hk).1) (zFg (h2 j hj).1) e
  have c:=(h2 k hk).2 j hj hjk;rw[zEz,e1,e2]at c;simp at c
 ·obtain⟨k,hk,rfl⟩:=List.getElem_of_mem hx
  have v:=zFg (h2 k hk).1;have hfx:=hf _ hx;generalize l[k]=x at v hfx hP⊢;obtain⟨pa,pl,only⟩:=x;cases only with
  |true=>
   have X:=zIh [[111,110,108,121]] false hfx v;exact .st (ws:=[[97,103,103,114,101,103,97,116,101],pfxF pa pl,[111,110,108,121]]) ⟨lit rfl,zIb v,lit rfl⟩ (.inr hP) (st_eq3 rfl (by simp only[zAo,X.1];rfl) (by simp only[zAo,X.1,X.2];rfl) (by simp only[zAo,X.2];rfl))
  |false=>
   have X:=zIh [] false hfx v;exact .st (ws:=[[97,103,103,114,101,103,97,116,101],pfxF pa pl]) ⟨lit rfl,zIb v⟩ (.inr hP) (st_eq3 rfl (by simp only[zAo,X.1];rfl) (by simp only[zAo,X.1,X.2];rfl) (by simp only[zAo,X.2];rfl))
theorem cds_reads{K W:List (List UInt8)}(s:Rt)(l:List Cd)(hK:K.all bare1=true)(hW:W.all bare1=true)(hw:[111,114,105,103,105,110,97,116,101]∉W)(h:cdsE l=0)(hf:∀x∈l,x.fit)(he:s.cd=[]) :
  Reads .path (Top K W) (Top K ([111,114,105,103,105,110,97,116,101] :: W)) (l.map cdN) s { s with cd:=l }:=by
 obtain⟨_,h2⟩:=zDz (by decide) h
 have hv:∀k (hk:k<l.length),zAk l[k].pa l[k].pl=true∧zAk l[k].ia l[k].il=true:=fun k hk=>by
  have h3:=(h2 k hk).1;unfold cdF at h3;split at h3
  ·rename_i h4;rwa [Bool.and_eq_true]at h4
  ·cases h3
 refine(show s={ s with cd:=[] } by rw[←he]) ▸ zEq [111,114,105,103,105,110,97,116,101] cdN (fun x=>pfxF x.pa x.pl) (fun a=>({ s with cd:=a }:Rt)) l hK hW hw (by decide) (fun k hk j hj hjk e=>?_) fun a x hx P1 hP=>?_
 ·obtain⟨e1,e2⟩:=pfx_inj (hf _ (List.getElem_mem hk)).1 (hf _ (List.getElem_mem hj)).1 (hv k hk).1 (hv j hj).1 e
  have c:=(h2 k hk).2 j hj hjk;rw[zFc,e1,e2]at c;simp at c
 ·obtain⟨k,hk,rfl⟩:=List.getElem_of_mem hx
  obtain⟨v,u⟩:=hv k hk;obtain⟨f1,f2⟩:=hf _ hx;generalize l[k]=x at v u f1 f2 hP⊢;obtain⟨pa,pl,ia,il,absent⟩:=x;have Y:=zIh [] false f2 u;cases absent with
  |true=>
   have X:=zIh [[117,110,108,101,115,115],pfxF ia il] false f1 v;exact .st (ws:=[[111,114,105,103,105,110,97,116,101],pfxF pa pl,[117,110,108,101,115,115],pfxF ia il]) ⟨lit rfl,zIb v,lit rfl,zIb u⟩ (.inr hP) (st_eq3 rfl (by simp only[zAo,X.1];rfl) (by simp only[zAo,X.1,X.2];show({ s with cd:=a++[⟨pa,pl,(pxV ⟨[pfxF ia il],false⟩).1,(pxV ⟨[pfxF ia il],false⟩).2,true⟩] }:Rt)=_;rw[Y.1]) (by simp only[zAo,X.2];exact Y.2))
  |false=>
   have X:=zIh [[105,102],pfxF ia il] false f1 v;exact .st (ws:=[[111,114,105,103,105,110,97,116,101],pfxF pa pl,[105,102],pfxF ia il]) ⟨lit rfl,zIb v,lit rfl,zIb u⟩ (.inr hP) (st_eq3 rfl (by simp only[zAo,X.1];rfl) (by simp only[zAo,X.1,X.2];show({ s with cd:=a++[⟨pa,pl,(pxV ⟨[pfxF ia il],false⟩).1,(pxV ⟨[pfxF ia il],false⟩).2,false⟩] }:Rt)=_;rw[Y.1]) (by simp only[zAo,X.2];exact Y.2))
theorem start_at{f:Fm}{P P' : KP}{a:List Nd}{r0 r r' : Rt}(h:r0=r)(hr:Reads f P P' a r r'):Reads f P P' a r0 r' := h ▸ hr
set_option maxHeartbeats 1000000 in
theorem pv_reads{K W:List (List UInt8)}(s r:Rt)(hk:[112,97,116,104,45,118,101,99,116,111,114]∉K)(h:pvE r=0)(f1:∀x∈r.nb,x.fit)(f2:∀x∈r.net,x.fit)(f3:∀x∈r.ag,x.fit)(f4:∀x∈r.cd,x.fit)(hv:∀x∈r.maps,nameB x.name=true)
  (h0:s.pvOn=false) (h1:s.ext=0) (h2:s.int=0) (h3:s.nb=[]) (h4:s.net=[]) (h5:s.ag=[]) (h6:s.cd=[]) (h7:s.pvRed=[]) :
  Reads .top (Top K W) (Top ([112,97,116,104,45,118,101,99,116,111,114] :: K) W) (pvN r) s { s with pvOn:=r.pvOn,ext:=r.ext,int:=r.int,nb:=r.nb,net:=r.net,ag:=r.ag,cd:=r.cd,pvRed:=r.pvRed }:=by
 unfold pvE at h;unfold pvN;cases ho:r.pvOn with
 |false=>
  rw[ho,if_neg (by decide)]at h;split at h
  ·cases h
  ·rename_i h8
   rw[Bool.not_eq_true]at h8;simp only[Bool.or_eq_false_iff]at h8;obtain⟨z1,z2,z3,z4,z5,z6,z7⟩:=h8;rw[zFx z1,zFx z2,zDp z3,zDp z4,zDp z5,zDp z6,zDp z7,show({ s with pvOn:=false,ext:=0,int:=0,nb:=[],net:=[],ag:=[],cd:=[],pvRed:=[] }:Rt)=s by cases s;simp only at h0 h1 h2 h3 h4 h5 h6 h7;subst h0 h1 h2 h3 h4 h5 h6 h7;rfl];exact .nil fun _ h=>zEl _ (.inr h)
 |true=>
  rw[ho,if_pos rfl]at h;obtain⟨hw,h⟩:=zFq h;simp only[Bool.and_eq_true]at hw;obtain⟨g1,h⟩:=zCc h;obtain⟨g2,g3⟩:=zCc h;unfold origE at g2;obtain⟨g4,g2⟩:=zCc g2;obtain⟨g5,g6⟩:=zCc g2;have A:=zAm hw.1.2;have B:=zAm hw.2;have N:=zCw [] false (Int.le_trans (by decide) A.1) A.1 A.2 (by decide);have M:=zCw [] false (Int.le_trans (by decide) B.1) B.1 B.2 (by decide);refine(Reads.bl (ws:=[[112,97,116,104,45,118,101,99,116,111,114]]) (key:=[112,97,116,104,45,118,101,99,116,111,114]) (P2:=Top [] [[105,109,112,111,114,116],[111,114,105,103,105,110,97,116,101],[97,103,103,114,101,103,97,116,101],[110,101,116,119,111,114,107],[110,101,105,103,104,98,111,114],[112,114,101,102,101,114,101,110,99,101]]) (lit rfl) (.inr (zGc hk (by decide))) rfl ?_).imp zEl;refine .cons (r' := { s with pvOn:=true,ext:=r.ext,int:=170 }) (Reads.st (key:=[112,114,101,102,101,114,101,110,99,101,32,101,120,116,101,114,110,97,108]) ⟨lit rfl,lit rfl,zCe (by omega)⟩ (.inr id) (st_eq rfl (by show({ s with pvOn:=true,ext:=noV 1 255 ⟨[decI r.ext],false⟩,int:=170 }:Rt)=_;rw[N.1]) N.2)) ?_;refine .cons (P' := Top [] [[112,114,101,102,101,114,101,110,99,101]]) (r' := { s with pvOn:=true,ext:=r.ext,int:=r.int }) ((Reads.st (ws:=[[112,114,101,102,101,114,101,110,99,101],[105,110,116,101,114,110,97,108],decI r.int]) (key:=[112,114,101,102,101,114,101,110,99,101,32,105,110,116,101,114,110,97,108]) ⟨lit rfl,lit rfl,zCe (by omega)⟩ (.inr (by decide)) (st_eq rfl (by show({ s with pvOn:=true,ext:=r.ext,int:=noV 1 255 ⟨[decI r.int],false⟩ }:Rt)=_;rw[M.1]) M.2)).imp ?_) ?_
  ·rintro k (rfl|rfl|h)
   ·exact .inr ⟨_,List.mem_cons_self,_,rfl⟩
   ·exact .inr ⟨_,List.mem_cons_self,_,rfl⟩
   ·exact h.elim
  refine .app (nbs_reads _ r.maps r.nb (by decide) (by decide) (by decide) g1 f1 hv h3) ?_;refine .app (nets_reads _ r.net (by decide) (by decide) (by decide) g4 f2 h4) ?_;refine .app (ags_reads _ r.ag (by decide) (by decide) (by decide) g5 f3 h5) ?_;refine .app (cds_reads _ r.cd (by decide) (by decide) (by decide) g6 f4 h6) ?_;exact start_at (r:={ s with pvOn:=true,ext:=r.ext,int:=r.int,nb:=r.nb,net:=r.net,ag:=r.ag,cd:=r.cd,pvRed:=[] }) (by rw[←h7]) <| rds_reads (f:=.path) (g:=.redPV) (typed:=false) (put:=fun g r=>{ r with pvRed:=lastF g r.pvRed }) (st:=fun a=>({ s with pvOn:=true,ext:=r.ext,int:=r.int,nb:=r.nb,net:=r.net,ag:=r.ag,cd:=r.cd,pvRed:=a }:Rt)) (m0:=0) (t0:=0) r.pvRed (by decide) (by decide) (by decide) (fun _ _=>rfl) (fun a h y=>by simp only[zEi]) (fun a w=>rfl) ⟨by decide,by decide⟩ (.inr ⟨rfl,rfl⟩) g3 hv
theorem zJq{r:Rt}(h:zBl r=0)(hf:r.fit):okL (fmtN r)∧readN .top [] (fmtN r) rtN=(r.plain,none):=by
 obtain⟨z1,z2,z3,z4,z5,z6,z7,z8,z9,z10,z11,z12⟩:=router_ok h;obtain⟨f1,f2,f3,f4,f5,f6,f7,f8,f9,f10,f11,f12,f13,f14⟩:=hf
 have each:∀{α:Type} {l:List α} {p:α→Bool},(∀k (hk:k<l.length),p l[k]=true)→∀x∈l,p x=true:=fun h x hx=>by
  obtain⟨k,hk,rfl⟩:=List.getElem_of_mem hx;exact h k hk
 have vI:=each (p:=fun x:If=>nameB x.name) fun k hk=>((ifs_ok z3).2 k hk).1
 have vL:=each (p:=fun x:PList=>nameB x.name) fun k hk=>((ls_ok z4).2 k hk).1
 have vM:=each (p:=fun x:RMap=>nameB x.name) fun k hk=>((ls_ok z5).2 k hk).1
 have vA:=each (p:=fun x:AList=>nameB x.name) fun k hk=>((ls_ok z6).2 k hk).1
 have R:Reads .top (fun _=>False) (Top [[112,97,116,104,45,118,101,99,116,111,114],[100,105,115,116,97,110,99,101,45,118,101,99,116,111,114],[108,105,110,107,45,115,116,97,116,101],[115,116,97,116,105,99],[116,114,97,110,115,108,97,116,105,111,110],[105,110,116,101,114,102,97,99,101,115],[115,121,115,116,101,109]] [[102,105,108,116,101,114],[112,111,108,105,99,121],[112,114,101,102,105,120,45,108,105,115,116]]) (fmtN r) rtN r.plain:=by
  refine .app ((sys_reads (K:=[]) (W:=[]) rtN r (by decide) z1 (zAm z2) rfl).pre fun _ h=>h.elim) ?_;refine .app (ifs_reads _ r.ifs (by decide) z3 f1 (fun x hx=>two_has vA (zHb z8 x hx)) rfl) ?_;refine .app (lists_reads _ r.lists (by decide) (by decide) (by decide) z4 f2 rfl) ?_;refine .app (maps_reads _ r.lists r.maps (by decide) (by decide) (by decide) vL z5 rfl) ?_;refine .app (acls_reads _ r.acls (by decide) (by decide) (by decide) z6 f4 rfl) ?_;refine .app (nat_reads _ r.acls r.nat (by decide) z7 f5 vA rfl) ?_;refine .app (stat_reads _ r.ifs r.stat (by decide) z9 f6 vI rfl) ?_;refine .app (ls_reads _ r (by decide) z10 f7 vM rfl rfl rfl rfl) ?_;refine .app (dv_reads _ r (by decide) z11 vL vM rfl rfl rfl rfl rfl) ?_;exact pv_reads _ r (by decide) z12 f10 f11 f12 f13 vM rfl rfl rfl rfl rfl rfl rfl rfl
 obtain⟨k,e,_⟩:=R.2 [] fun _ h=>by cases h
 exact⟨R.1,foldN_read _ _ _ _ _ e⟩
theorem parseT_text{chk:Rt→Int}{lines:Int}{t:List Tk}{ns:List Nd}{r:Rt}(h:okL ns)(ht:txts t=flatL ns)(hr:readN .top [] ns rtN=(r,none)) :
  zGn chk lines t=if chk r=0 then(lines,0,r)else(lines,chk r,rtN):=by
 have hl:t.length=(flatL ns).length:=by have:=congrArg List.length ht;simpa only[txts,List.length_map] using this
 have hc:=zOi ns;obtain⟨g,hg,h2⟩:=zLx ns (2*t.length+2) false [] [] h (by omega);obtain⟨j,rfl⟩:∃j,g=j+1:=⟨g - 1,by omega⟩
 have h3:seqN 0 (2*t.length+2) false (zeroT (flatL ns)) []=.ok (ns,[]):=by
  rw[List.append_nil]at h2;rw[h2];simp only[seqN,Bool.false_eq_true,if_false,List.nil_append]
 have h4:=(sameRead lines 0 (2*t.length+2)).1 false t (zeroT (flatL ns)) [] [] (by rw[ht];simp only[txts,zeroT,List.map_map];exact(List.map_id' _).symm) rfl;rw[h3]at h4;unfold zGn
 revert h4
 cases seqN lines (2*t.length+2) false t []with
 |error e=>intro h4;simp only[zIp]at h4
 |ok a=>
  intro h4;have h5:=zJx .top a.1 ns [] rtN h4.1;rw[hr]at h5;simp only
  revert h5
  match readN .top [] a.1 rtN with
  |(r', none)=>intro h5;simp only at h5;obtain⟨rfl,_⟩:=h5;rfl
  |(r', some e)=>intro h5;simp only[errO,Option.map_some,Option.map_none]at h5;cases h5.2
theorem parse_text{r:Rt}(h:zBl r=0)(hf:r.fit)(hl:(textL 0 (fmtN r)).length≤65536) :
  zIe zBl (textL 0 (fmtN r))=(((zEm 0 (fmtN r)).length:Int),0,r.plain):=by
 obtain⟨h1,h2⟩:=zJq h hf;obtain⟨h3,h4,h5⟩:=zJk h1 0;have h6:zAu (textL 0 (fmtN r))=0:=by rw[zAu,if_neg (by omega),h4];rfl
 rw[zIe,if_pos h6,parseT_text h1 h5 h2,zMj,if_pos h,h3]
theorem zFr(a b:List Nd):flatL (a++b)=flatL a++flatL b:=by
 induction a with
 |nil=>simp only[List.nil_append,flatL]
 |cons x r ih=>simp only[List.cons_append,flatL,ih,List.append_assoc]
theorem flat_opt(b:Bool)(n:Nd):(flatL (optN b n)).length≤(flatN n).length:=by
 cases b with
 |true=>simp only[optN,if_true,flatL,List.append_nil];omega
 |false=>simp only[optN,Bool.false_eq_true,if_false,flatL,List.length_nil];omega
theorem zDi{α:Type}(N:α→Nd)(c:Nat){m:Nat}:∀{l:List α},l.length≤m→(∀x∈l,(flatN (N x)).length≤c)→(flatL (l.map N)).length≤m*c:=by
 intro l;induction l generalizing m with
 |nil=>intro _ _;simp[flatL]
 |cons x r ih=>
  intro hm h;obtain⟨k,rfl⟩:∃k,m=k+1:=⟨m - 1,by simp only[List.length_cons]at hm;omega⟩;have h1:=ih (m:=k) (by simp only[List.length_cons]at hm;omega) fun y hy=>h y (List.mem_cons_of_mem _ hy)
  have h2:=h x List.mem_cons_self;simp only[List.map_cons,flatL,List.length_append,Nat.add_mul];omega
theorem zHg(ws:List (List UInt8)):(flatN (stn ws)).length=ws.length+1:=by simp only[stn,flatN,List.length_append,List.length_cons,List.length_nil]
theorem zJb(ws:List (List UInt8))(ks:List Nd):(flatN (bln ws ks)).length=ws.length+(flatL ks).length+2:=by
 simp only[bln,flatN,List.length_append,List.length_cons,List.length_nil];omega
theorem zIa(n:Nd):(flatL [n]).length=(flatN n).length:=by simp only[flatL,List.append_nil]
theorem zDt(b:Bool)(ws:List (List UInt8))(c:Nat)(h:ws.length+1≤c):(flatL (optN b (stn ws))).length≤c:=Nat.le_trans (flat_opt b _) (by rw[zHg];exact h)
theorem if_le(x:If):(flatN (ifN x)).length≤40:=by
 have h0:(flatL (ifP 0 x)).length≤3:=zDt _ _ _ (by simp);have h1:(flatL (ifP 1 x)).length≤3:=zDt _ _ _ (by simp);have h2:(flatL (ifP 2 x)).length≤2:=zDt _ _ _ (by simp);have h3:(flatL (ifP 3 x)).length≤6:=zDt _ _ _ (by simp);have h4:(flatL (ifP 4 x)).length≤2:=zDt _ _ _ (by simp);have h5:(flatL (ifP 5 x)).length≤3:=zDt _ _ _ (by simp);have h6:(flatL (ifP 6 x)).length≤3:=zDt _ _ _ (by simp)
 have h7:(flatL (ifP 7 x)).length≤3:=by
  show(flatL (sideN x.side)).length≤3;unfold sideN;split
  ·rw[zIa,zHg];simp
  ·exact zDt _ _ _ (by simp)
 rw[ifN,zJb,ifK];simp only[zFr,List.length_append,List.length_cons,List.length_nil];omega
theorem pr_le(x:PRule):(flatN (prN x)).length≤6:=by
 rw[prN,zHg];unfold zDk
 (repeat' split)<;>simp
theorem cl_le(x:Cl):(flatN (clN x)).length≤40:=by
 have h0:(flatL (clP 0 x)).length≤4:=zDt _ _ _ (by simp);have h1:(flatL (clP 1 x)).length≤4:=zDt _ _ _ (by simp);have h2:(flatL (clP 2 x)).length≤4:=zDt _ _ _ (by simp);have h3:(flatL (clP 3 x)).length≤4:=zDt _ _ _ (by simp);have h4:(flatL (clP 4 x)).length≤4:=zDt _ _ _ (by simp);have h5:(flatL (clP 5 x)).length≤4:=zDt _ _ _ (by simp)
 have h6:(flatL (clP 6 x)).length≤2:=by
  show(flatL [stn [_]]).length≤2;rw[zIa,zHg];simp
 rw[clN,zJb,clK];simp only[zFr,List.length_append,List.length_cons,List.length_nil];omega
theorem ru_le(x:Ru):(flatN (ruN x)).length≤40:=by
 have h0:(flatL (ruP 0 x)).length≤3:=zDt _ _ _ (by simp);have h1:(flatL (ruP 1 x)).length≤3:=zDt _ _ _ (by simp);have h2:(flatL (ruP 2 x)).length≤3:=zDt _ _ _ (by simp);have h3:(flatL (ruP 3 x)).length≤3:=zDt _ _ _ (by simp);have h4:(flatL (ruP 4 x)).length≤3:=zDt _ _ _ (by simp)
 have h5:(flatL (ruP 5 x)).length≤2:=by
  show(flatL [stn [_]]).length≤2;rw[zIa,zHg];simp
 rw[ruN,zJb,ruK];simp only[zFr,List.length_append,List.length_cons,List.length_nil];omega
theorem tr_le(x:Tr):(flatN (stn (trW x))).length≤7:=by
 rw[zHg];unfold trW
 (repeat' split)<;>simp
theorem sr_le(x:Sr):(flatN (srN x)).length≤20:=by
 have h0:(flatL (srP 0 x)).length≤3:=by
  show(flatL [goalN x]).length≤3;rw[zIa,goalN,zHg]
  (repeat' split)<;>simp
 have h1:(flatL (srP 1 x)).length≤3:=by
  show(flatL [stn [_,_]]).length≤3;rw[zIa,zHg];simp
 have h2:(flatL (srP 2 x)).length≤3:=zDt _ _ _ (by simp);rw[srN,zJb,srK];simp only[zFr,List.length_append,List.length_cons,List.length_nil];omega
theorem rd_le(x:Rd):(flatN (rdN x)).length≤20:=by
 have h0:(flatL (rdP 0 x)).length≤3:=by
  show(flatL [stn [_,_]]).length≤3;rw[zIa,zHg];simp
 have h1:(flatL (rdP 1 x)).length≤3:=zDt _ _ _ (by simp);have h2:(flatL (rdP 2 x)).length≤3:=zDt _ _ _ (by simp);have h3:(flatL (rdP 3 x)).length≤3:=zDt _ _ _ (by simp);rw[rdN,zJb,rdK];simp only[zFr,List.length_append,List.length_cons,List.length_nil];omega
theorem nb_le(x:Nb):(flatN (nbN x)).length≤20:=by
 have h0:(flatL (nbP 0 x)).length≤3:=by
  show(flatL [stn [_,_]]).length≤3;rw[zIa,zHg];simp
 have h1:(flatL (nbP 1 x)).length≤3:=zDt _ _ _ (by simp);have h2:(flatL (nbP 2 x)).length≤3:=zDt _ _ _ (by simp);rw[nbN,zJb,nbK];simp only[zFr,List.length_append,List.length_cons,List.length_nil];omega
theorem block_le{α:Type}(l:List α)(w:List UInt8)(N:α→Nd)(c m:Nat)(h:(flatL (l.map N)).length≤m)(hc:m+3≤c):(flatL (if l.isEmpty then []else [bln [w] (l.map N)])).length≤c:=by
 split
 ·simp[flatL]
 ·rw[zIa,zJb];simp only[List.length_cons,List.length_nil];omega
theorem opt_bl{b:Bool}{w:List UInt8}{ks:List Nd}{c m:Nat}(h:(flatL ks).length≤m)(hc:m+3≤c):(flatL (optN b (bln [w] ks))).length≤c :=
 Nat.le_trans (flat_opt b _) (by rw[zJb];simp only[List.length_cons,List.length_nil];omega)
structure Shorts (r:Rt):Prop where
 ifs:r.ifs.length≤16
 lists:r.lists.length≤16∧∀x∈r.lists,x.rules.length≤16
 maps:r.maps.length≤16∧∀x∈r.maps,x.clauses.length≤16
 acls:r.acls.length≤16∧∀x∈r.acls,x.rules.length≤16
 nat:r.nat.length≤16
 stat:r.stat.length≤16
 ranges:r.ranges.length≤16
 lsRed:r.lsRed.length≤16
 dvRed:r.dvRed.length≤16
 nb:r.nb.length≤16
 net:r.net.length≤16
 ag:r.ag.length≤16
 cd:r.cd.length≤16
 pvRed:r.pvRed.length≤16
theorem flat_len{r:Rt}(h:Shorts r):(flatL (fmtN r)).length≤100000:=by
 have h1:(flatL (sysN r)).length≤20:=by
  have a0:(flatL (sysP 0 r)).length≤3:=by
   show(flatL [stn [_,_]]).length≤3;rw[zIa,zHg];simp
  have a1:(flatL (sysP 1 r)).length≤3:=zDt _ _ _ (by simp);rw[sysN,zIa,zJb,zFr,List.length_append];simp only[List.length_cons,List.length_nil];omega
 have h2:(flatL (ifsN r.ifs)).length≤700:=block_le _ _ _ _ (16*40) (zDi ifN 40 h.ifs fun x _=>if_le x) (by omega)
 have h3:(flatL (r.lists.map listN)).length≤16*200:=zDi listN 200 h.lists.1 fun x hx=>by
  have:=zDi prN 6 (h.lists.2 x hx) fun y _=>pr_le y
  rw[listN,zJb];simp only[List.length_cons,List.length_nil];omega
 have h4:(flatL (r.maps.map mapN)).length≤16*700:=zDi mapN 700 h.maps.1 fun x hx=>by
  have:=zDi clN 40 (h.maps.2 x hx) fun y _=>cl_le y
  rw[mapN,zJb];simp only[List.length_cons,List.length_nil];omega
 have h5:(flatL (r.acls.map aclN)).length≤16*700:=zDi aclN 700 h.acls.1 fun x hx=>by
  have:=zDi ruN 40 (h.acls.2 x hx) fun y _=>ru_le y
  rw[aclN,zJb];simp only[List.length_cons,List.length_nil];omega
 have h6:(flatL (natN r.nat)).length≤200:=block_le _ _ _ _ (16*7) (zDi (fun x=>stn (trW x)) 7 h.nat fun x _=>tr_le x) (by omega);have h7:(flatL (statN r.stat)).length≤400:=block_le _ _ _ _ (16*20) (zDi srN 20 h.stat fun x _=>sr_le x) (by omega);have r1:=zDi rdN 20 h.lsRed fun x _=>rd_le x
 have r2:=zDi rdN 20 h.dvRed fun x _=>rd_le x
 have r3:=zDi rdN 20 h.pvRed fun x _=>rd_le x
 have p1:∀a b:List UInt8,(flatN (stn [a,b])).length=3:=fun a b=>by rw[zHg];rfl
 have p2:∀a b c:List UInt8,(flatN (stn [a,b,c])).length=4:=fun a b c=>by rw[zHg];rfl
 have h8:(flatL (lsN r)).length≤1000:=by
  have:=zDi (fun a:AR=>stn [[114,97,110,103,101],decI a.area,pfxF a.pa a.pl]) 4 h.ranges fun x _=>Nat.le_of_eq (p2 _ _ _)
  refine opt_bl (m:=900) ?_ (by omega);simp only[flatL,zFr,List.length_append,p1];omega
 have h9:(flatL (dvN r)).length≤1000:=by
  have a:∀u v:List UInt8,(flatL (nameN u v)).length≤3:=fun u v=>zDt _ _ _ (by simp)
  have a1:=a [105,110,112,117,116] r.dvIn;have a2:=a [111,117,116,112,117,116] r.dvOut;refine opt_bl (m:=900) ?_ (by omega);simp only[flatL,zFr,List.length_append,p1];omega
 have h10:(flatL (pvN r)).length≤3000:=by
  have a1:=zDi nbN 20 h.nb fun x _=>nb_le x
  have a2:=zDi (fun p:Pf=>stn [[110,101,116,119,111,114,107],pfxF p.pa p.pl]) 3 h.net fun x _=>Nat.le_of_eq (p1 _ _)
  have a3:=zDi agN 4 h.ag fun x _=>by rw[agN,zHg];split<;>simp
  have a4:=zDi cdN 5 h.cd fun x _=>by rw[cdN,zHg];simp
  refine opt_bl (m:=2900) ?_ (by omega);simp only[flatL,zFr,List.length_append,p2];omega
 unfold fmtN;simp only[zFr,List.length_append];omega
theorem zNd{α:Type}{l:List α}{P:α→Prop}(h:∀k (hk:k<l.length),P l[k]):∀x∈l,P x:=fun x hx=>by
 obtain⟨k,hk,rfl⟩:=List.getElem_of_mem hx;exact h k hk
theorem red_len{maps:List RMap}{a b c d:Int}{l:List Rd}(h:redE maps a b c d l=0):l.length≤16:=Nat.le_trans (zDz (by decide) h).1 (by decide)
theorem valid_shorts{r:Rt}(h:zBl r=0):Shorts r:=by
 obtain⟨z1,z2,z3,z4,z5,z6,z7,z8,z9,z10,z11,z12⟩:=router_ok h
 have hls:r.ranges.length≤16∧r.lsRed.length≤16:=by
  unfold lnkE at z10;cases ho:r.lsOn with
  |true=>
   rw[ho,if_pos rfl]at z10;obtain⟨a,b⟩:=zCc (zFq z10).2;exact⟨Nat.le_trans (zDz (by decide) a).1 (by decide),red_len b⟩
  |false=>
   rw[ho,if_neg (by decide)]at z10
   have h4:(!(r.lsAdmin==0)||decide ((0:Int)<r.ranges.length)||decide ((0:Int)<r.lsRed.length))=false:=by
    rw[←Bool.not_eq_true];intro e;rw[if_pos e]at z10;cases z10
   simp only[Bool.or_eq_false_iff]at h4;rw[zDp h4.1.2,zDp h4.2];exact⟨by simp,by simp⟩
 have hdv:r.dvRed.length≤16:=by
  unfold dvE at z11;cases ho:r.dvOn with
  |true=>
   rw[ho,if_pos rfl]at z11;exact red_len (zCc (zFq z11).2).2
  |false=>
   rw[ho,if_neg (by decide)]at z11
   have h4:(!(r.dvAdmin==0) || !r.dvIn.isEmpty || !r.dvOut.isEmpty||decide ((0:Int)<r.dvRed.length))=false:=by
    rw[←Bool.not_eq_true];intro e;rw[if_pos e]at z11;cases z11
   simp only[Bool.or_eq_false_iff]at h4;rw[zDp h4.2];simp
 have hpv:r.nb.length≤16∧r.net.length≤16∧r.ag.length≤16∧r.cd.length≤16∧r.pvRed.length≤16:=by
  unfold pvE at z12;cases ho:r.pvOn with
  |true=>
   rw[ho,if_pos rfl]at z12;obtain⟨g1,h⟩:=zCc (zFq z12).2;obtain⟨g2,g3⟩:=zCc h;unfold origE at g2;obtain⟨g4,g2⟩:=zCc g2;obtain⟨g5,g6⟩:=zCc g2;exact⟨Nat.le_trans (zDz (by decide) g1).1 (by decide),Nat.le_trans (zDz (by decide) g4).1 (by decide),Nat.le_trans (zDz (by decide) g5).1 (by decide),Nat.le_trans (zDz (by decide) g6).1 (by decide),red_len g3⟩
  |false=>
   rw[ho,if_neg (by decide)]at z12;split at z12
   ·cases z12
   ·rename_i h8
    rw[Bool.not_eq_true]at h8;simp only[Bool.or_eq_false_iff]at h8;obtain⟨_,_,y3,y4,y5,y6,y7⟩:=h8;rw[zDp y3,zDp y4,zDp y5,zDp y6,zDp y7];simp
 obtain⟨a1,a2⟩:=ls_ok z4;obtain⟨b1,b2⟩:=ls_ok z5;obtain⟨c1,c2⟩:=ls_ok z6;refine⟨by have:=(ifs_ok z3).1;omega,⟨by omega,zNd fun k hk=>by have:=(a2 k hk).2.2.2.1;omega⟩,⟨by omega,zNd fun k hk=>by have:=(b2 k hk).2.2.2.1;omega⟩,⟨by omega,zNd fun k hk=>by have:=(c2 k hk).2.2.2.1;omega⟩,?_,(zDz (by decide) z9).1,hls.1,hls.2,hdv,hpv.1,hpv.2.1,hpv.2.2.1,hpv.2.2.2.1,hpv.2.2.2.2⟩;unfold natsE at z7;split at z7
 ·cases z7
 ·omega
theorem valid_text_len{r:Rt}(h:zBl r=0)(hf:r.fit):(textL 0 (fmtN r)).length≤30000000000:=by
 have h1:=zNe (fmtN r) 0 (zJq h hf).1;have h2:=flat_len (valid_shorts h);have h3:(flatL (fmtN r)).length*(50+2*(0+(flatL (fmtN r)).length))≤100000*(50+2*(0+100000)):=Nat.mul_le_mul h2 (by omega);omega
end Go.Proofs.YtdlgnhefpoalnaaGreatDoor
