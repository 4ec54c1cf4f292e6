/- Dialect Beta, plain: how long a valid router's text is at most; what its parts' numbers are. No condition. -/
import Derived.Test.YtdlgnhefpoalnaaGreatDoorLai
import Derived.Test.YtdlgnhefpoalnaaGreatDoorLam
namespace Go.Proofs.YtdlgnhefpoalnaaGreatDoor
open Lib (hid)
theorem go_ok{n:Nat}{G:Nat→Int}{P:(k:Nat)→k<n→Prop}(hs:∀k (h:k<n),G k=0→P k h∧G (k+1)=0)(h0:G 0=0):∀k (h:k<n),P k h:=by
 have hg:∀k,k≤n→G k=0:=by
  intro k;induction k with
  |zero=>exact fun _=>h0
  |succ k ih=>exact fun h=>(hs k h (ih (Nat.le_of_succ_le h))).2
 exact fun k h=>(hs k h (hg k (Nat.le_of_lt h))).1
theorem take_any{α:Type}{l:List α}{p:α→Bool}{k:Nat}(h:¬(l.take k).any p=true)(j:Nat)(hjn:j<l.length)(hj:j<k):p l[j]=false:=by
 cases hp:p l[j]with
 |false=>rfl
 |true=>exact absurd (List.any_eq_true.2 ⟨l[j],List.mem_take_iff_getElem.2 ⟨j,by omega,rfl⟩,hp⟩) h
theorem idxF_ge{α:Type}{p:α→Bool}:∀{l:List α} {i k:Nat},¬idxF p l i<k→∀j (hj:j<l.length),i+j<k→p l[j]=false
 |[],_,_,_,_,hj,_=>absurd hj (Nat.not_lt_zero _)
 |y :: r,i,k,h,j,hj,hk=>by
  unfold idxF at h;cases hp:p y with
  |true=>rw[if_pos hp]at h;exact absurd (show(i:Int)<k by omega) h
  |false=>
   rw[if_neg (by rw[hp];decide)]at h
   match j,hj with
   |0,_=>exact hp
   |j+1,hj=>exact idxF_ge (l:=r) h j (by simpa using hj) (by omega)
theorem zIz{β:Type}{f:β→Int}:∀{l:List β},zAk f l=0→∀x∈l,f x=0
 |[],_,_,h=>by cases h
 |y :: r,h,x,hx=>by
  unfold zAk at h;by_cases h0:f y=0
  ·rw[if_pos h0]at h
   rcases List.mem_cons.1 hx with rfl|hx
   ·exact h0
   ·exact zIz h x hx
  ·rw[if_neg h0]at h
   exact absurd h h0
theorem ifs_ok{l:List If}(h:ifsE l=0):l.length≤8∧∀k (hk:k<l.length),nameB l[k].name=true∧(∀j (hj:j<l.length),j<k→(l[j].name==l[k].name)=false)∧zDj l[k]=true∧∀j (hj:j<l.length),j<k→zDm l[k] l[j]=false:=by
 unfold ifsE at h;by_cases h8:8<l.length
 ·rw[if_pos h8]at h;cases h
 rw[if_neg h8]at h;refine⟨by omega,go_ok (G:=fun k=>ifsGo l (l.drop k) k) (fun k hk h=>?_) h⟩;have h2:=ifsGo_at hk h;cases hn:nameB l[k].name with
 |false=>rw[hn]at h2;cases h2
 |true=>
 rw[hn]at h2;simp only[Bool.not_true,Bool.false_eq_true,if_false]at h2;by_cases h3:idxF (fun y=>y.name==l[k].name) l 0<k
 ·rw[if_pos h3]at h2;cases h2
 rw[if_neg h3]at h2;cases hr:zDj l[k]with
 |false=>rw[hr]at h2;cases h2
 |true=>
 rw[hr]at h2;simp only[Bool.not_true,Bool.false_eq_true,if_false]at h2;by_cases h4:(l.take k).any (zDm l[k])=true
 ·rw[if_pos h4]at h2;cases h2
 rw[if_neg h4]at h2;exact⟨⟨rfl,fun j hj hjk=>idxF_ge h3 j hj (by omega),rfl,take_any h4⟩,h2.symm⟩
theorem listE_ok{k first size most:Int}{name:List UInt8}(h:listE k first name size most=0):nameB name=true∧¬first<k∧size≠0∧size≤most:=by
 unfold listE at h;cases hn:nameB name with
 |false=>rw[hn]at h;cases h
 |true=>
 rw[hn]at h;simp only[Bool.not_true,Bool.false_eq_true,if_false]at h;by_cases h1:first<k
 ·rw[if_pos h1]at h;cases h
 by_cases h2:size=0
 ·rw[if_neg h1,if_pos h2]at h;cases h
 by_cases h3:most<size
 ·rw[if_neg h1,if_neg h2,if_pos h3]at h;cases h
 exact⟨rfl,h1,h2,by omega⟩
theorem ls_ok{α:Type}{name:α→List UInt8}{len:α→Nat}{inner:α→Int}{most:Int}{l:List α}(h:lsE name len inner most l=0):l.length≤8∧∀k (hk:k<l.length),nameB (name l[k])=true∧(∀j (hj:j<l.length),j<k→(name l[j]==name l[k])=false)∧(len l[k]:Int)≠0∧(len l[k]:Int)≤most∧inner l[k]=0:=by
 unfold lsE at h;by_cases h8:8<l.length
 ·rw[if_pos h8]at h;cases h
 rw[if_neg h8]at h;refine⟨by omega,go_ok (G:=fun k=>lsGo name len inner most l (l.drop k) k) (fun k hk h=>?_) h⟩;have h2:=zJn hk h;by_cases h3:listE k (idxF (fun y=>name y==name l[k]) l 0) (name l[k]) (len l[k]) most=0
 ·rw[if_pos h3]at h2
  obtain⟨e1,e2,e3,e4⟩:=listE_ok h3;by_cases h4:inner l[k]=0
  ·rw[if_pos h4]at h2
   exact⟨⟨e1,fun j hj hjk=>idxF_ge e2 j hj (by omega),e3,e4,h4⟩,h2.symm⟩
  ·rw[if_neg h4]at h2;exact absurd h2.symm h4
 ·rw[if_neg h3]at h2;exact absurd h2.symm h3
theorem zGm{α:Type}{most:Nat}{f:α→Int}{c:α→α→Bool}{err:Int}{l:List α}(he:err≠0)(h:pairE most f c err l=0):l.length≤most∧∀k (hk:k<l.length),f l[k]=0∧∀j (hj:j<l.length),j<k→c l[k] l[j]=false:=by
 unfold pairE at h;by_cases h8:most<l.length
 ·rw[if_pos h8]at h;cases h
 rw[if_neg h8]at h;refine⟨by omega,go_ok (G:=fun k=>zAt f c err l (l.drop k) k) (fun k hk h=>?_) h⟩;have h2:=zCw hk h;by_cases h3:f l[k]=0
 ·rw[if_pos h3]at h2
  by_cases h4:(l.take k).any (c l[k])=true
  ·rw[if_pos h4]at h2;exact absurd h2.symm he
  ·rw[if_neg h4]at h2
   exact⟨⟨h3,take_any h4⟩,h2.symm⟩
 ·rw[if_neg h3]at h2;exact absurd h2.symm h3
theorem zCe{a b:Int}(h:(if a=0 then b else a)=0):a=0∧b=0:=by
 by_cases h0:a=0
 ·rw[if_pos h0]at h;exact⟨h0,h⟩
 ·rw[if_neg h0]at h;exact absurd h h0
theorem zKn{r:Rt}(h:zBw r=0):nameB r.name=true∧zAb r.asn 0 65535=true∧ifsE r.ifs=0∧plsE r.lists=0∧mapsE r.lists r.maps=0∧aclsE r.acls=0∧natsE r.acls r.nat=0∧zAk (filtE r.acls) r.ifs=0∧zMc r.ifs r.stat=0∧lnkE r=0∧dvE r=0∧pvE r=0:=by
 unfold zBw at h;cases hn:nameB r.name with
 |false=>rw[hn]at h;cases h
 |true=>
 rw[hn]at h;simp only[Bool.not_true,Bool.false_eq_true,if_false]at h;cases hw:zAb r.asn 0 65535 with
 |false=>rw[hw]at h;cases h
 |true=>
 rw[hw]at h;simp only[Bool.not_true,Bool.false_eq_true,if_false]at h;have hf:=zIz h;unfold secsE at hf;simpa using hf
end Go.Proofs.YtdlgnhefpoalnaaGreatDoor
namespace Go.Proofs.YtdlgnhefpoalnaaGreatDoor
open Lib (hid)
open Go.RowKit
abbrev KP:=List UInt8→Prop
def litB(x:List UInt8):Bool:=(!x.isEmpty&&decide (x.length≤40))&&x.all fun b=>wordB b.toNat&&(decide (33≤b.toNat)&&decide (b.toNat≤126))
theorem lit{x:List UInt8}(h:litB x=true):okW x:=by
 simp only[litB,Bool.and_eq_true,List.all_eq_true,decide_eq_true_eq]at h;exact⟨⟨by rintro rfl;exact absurd h.1.1 (by decide),h.1.2⟩,h.2⟩
theorem apart{α:Type}{c:α→α→Prop}{l a b:List α}{x:α}(h:∀k (hk:k<l.length),∀j (hj:j<l.length),j<k→c l[k] l[j])(e:l=a++x :: b):∀y∈a,c x y:=by
 subst e;intro y hy;obtain⟨j,hj,rfl⟩:=List.getElem_of_mem hy;have h1:=h a.length (by simp) j (by simp;omega) hj;rw[List.getElem_append_right (yI _),List.getElem_append_left hj]at h1;simpa using h1
theorem ne_of{n:Int}(h:(!(n==0))=true):n≠0:=by simpa using h
theorem m1_ne{n:Int}(h:(!(n == -1))=true):n ≠ -1:=by simpa using h
theorem nm_of{x:List UInt8}(hx:x=[]∨nameB x=true)(h:(!x.isEmpty)=true):nameB x=true:=by
 rcases hx with rfl|hx
 ·cases h
 ·exact hx
theorem zAp{n lo hi:Int}(h:zAb n lo hi=true):lo≤n∧n≤hi:=by simpa [zAb] using h
theorem ifc_ok{x:If}(h:zDj x=true):(0≤x.len∧x.len≤32)∧(0≤x.vlan∧x.vlan≤4094)∧(0≤x.side∧x.side≤2)∧(x.len=0→x.addr=0)∧(x.len≠0→x.addr≠0)∧(x.ls=true→(0≤x.area∧x.area≤255)∧1≤x.cost∧x.cost≤65535)∧(x.ls=false→x.area=0∧x.cost=0):=by
 simp only[zDj,Bool.and_eq_true]at h;obtain⟨⟨⟨⟨⟨h1,h2⟩,h3⟩,h4⟩,h5⟩,h6⟩:=h;refine⟨zAp h1,zAp h2,zAp h3,fun e=>?_,fun e e2=>?_,fun e=>?_,fun e=>?_⟩
 ·by_cases ha:x.addr=0
  ·exact ha
  ·simp[e,ha]at h4
 ·simp[e,e2]at h5
 ·rw[e,if_pos rfl]at h6
  rw[Bool.and_eq_true]at h6;exact⟨zAp h6.1,zAp h6.2⟩
 ·rw[e]at h6
  simpa using h6
theorem cl_ok{x:Cl}(h:zDg x=true):(-1≤x.tag∧x.tag≤65535)∧(-1≤x.setM∧x.setM≤16777215)∧(-1≤x.setT∧x.setT≤65535)∧(-1≤x.setP∧x.setP≤1000000)∧0≤x.prep∧x.prep≤8:=by
 simp only[zDg,Bool.and_eq_true]at h;obtain⟨⟨⟨⟨h1,h2⟩,h3⟩,h4⟩,h5⟩:=h;exact⟨zAp h1,zAp h2,zAp h3,zAp h4,zAp h5⟩
theorem ports_ok{lo hi:Int}(h:zFf lo hi=true):0≤lo∧lo≤hi∧hi≤65535:=by simpa [zFf,and_assoc] using h
theorem ru_ok{x:Ru}(h:zDl x=true):(-1≤x.proto∧x.proto≤255)∧x.sa &&& x.sm=0∧x.da &&& x.dm=0∧(0≤x.slo∧x.slo≤x.shi∧x.shi≤65535)∧0≤x.dlo∧x.dlo≤x.dhi∧x.dhi≤65535:=by
 simp only[zDl,Bool.and_eq_true]at h;obtain⟨⟨⟨⟨⟨h1,h2⟩,h3⟩,h4⟩,h5⟩,h6⟩:=h;exact⟨zAp h1,by simpa using h2,by simpa using h3,ports_ok h4,ports_ok h5⟩
theorem pr_ok{x:PRule}(h:zFa x=true):zAv x.pa x.pl=true∧x.pl≤x.min∧x.min≤x.max∧x.max≤32:=by
 simp only[zFa,Bool.and_eq_true,Bool.not_eq_true', decide_eq_false_iff_not,Int.not_lt]at h;exact⟨h.1.1.1,h.1.1.2,h.1.2,h.2⟩
theorem idx_hit{α:Type}{p:α→Bool}:∀{l:List α} {i:Nat},¬idxF p l i<0→∃x∈l,p x=true
 |[],_,h=>by unfold idxF at h;exact absurd (by decide) h
 |y :: r,i,h=>by
  unfold idxF at h;cases hp:p y with
  |true=>exact⟨y,List.mem_cons_self,hp⟩
  |false=>
   rw[hp]at h;obtain⟨x,hx,h2⟩:=idx_hit h;exact⟨x,List.mem_cons_of_mem _ hx,h2⟩
theorem name_in{α:Type}{name:α→List UInt8}{l:List α}(hv:∀x∈l,nameB (name x)=true){n:List UInt8}(h:¬idxF (fun y=>name y==n) l 0<0):nameB n=true:=by
 obtain⟨x,hx,h2⟩:=idx_hit h;have:=hv x hx
 rwa [eq_of_beq h2]at this
theorem zNa{α:Type}{name:α→List UInt8}{l:List α}(hv:∀x∈l,nameB (name x)=true){n:List UInt8}(h:zAx name l n=false):n=[]∨nameB n=true:=by
 cases n with
 |nil=>exact .inl rfl
 |cons a b=>
  right
  refine name_in hv ?_;simpa [zAx] using h
theorem two_has{α:Type}{name:α→List UInt8}{l:List α}(hv:∀x∈l,nameB (name x)=true){m n:List UInt8}(h:(if zAx name l m||zAx name l n then(5:Int)else 0)=0):(m=[]∨nameB m=true)∧(n=[]∨nameB n=true):=by
 cases h1:zAx name l m with
 |true=>rw[h1]at h;cases h
 |false=>cases h2:zAx name l n with
  |true=>rw[h1,h2]at h;cases h
  |false=>exact⟨zNa hv h1,zNa hv h2⟩
theorem natR_ok{acls:List AList}{x:Tr}(h:natE acls x=0)(hv:∀x∈acls,nameB x.name=true):zBl x=true∧(x.kind=2→nameB x.list=true):=by
 unfold natE at h;by_cases h1:zBl x=true
 ·refine⟨h1,fun hk=>?_⟩
  rw[if_pos h1]at h;refine name_in hv fun h2=>?_
  rw[if_pos (by rw[hk,decide_eq_true h2];rfl)]at h;cases h
 ·rw[if_neg h1]at h;cases h
theorem red_ok{maps:List RMap}{into least most types:Int}{x:Rd}(h:redF maps into least most types x=0)(hv:∀x∈maps,nameB x.name=true) :
  (1≤x.frm∧x.frm≤5)∧(least≤x.metric∧x.metric≤most)∧(0≤x.tag∧x.tag≤65535)∧(min 1 types≤x.typ∧x.typ≤types)∧(x.map=[]∨nameB x.map=true):=by
 unfold redF at h;split at h
 ·rename_i h1
  simp only[Bool.and_eq_true]at h1;obtain⟨⟨⟨⟨h1,_⟩,h2⟩,h3⟩,h4⟩:=h1;refine⟨zAp h1,zAp h2,zAp h3,zAp h4,?_⟩;cases hl:zAx (·.name) maps x.map with
  |true=>rw[hl]at h;cases h
  |false=>exact zNa hv hl
 ·cases h
theorem zDh{c:Prop}[Decidable c]{a:Int}(h:(if c then a else 1)=0):c∧a=0:=by
 split at h
 ·rename_i hc;exact⟨hc,h⟩
 ·cases h
theorem zHd{α:Type}{l:List α}(h:decide ((0:Int)<l.length)=false):l=[]:=by
 cases l with
 |nil=>rfl
 |cons a b=>simp at h
theorem zFy{c:Bool}(h:(if c then(0:Int)else 1)=0):c=true:=by
 cases c with
 |true=>rfl
 |false=>cases h
theorem joinW_sh:∀ws:List (List UInt8),(∀x∈ws,x.length≤40)→(joinW ws).length≤41*ws.length
 |[],_=>Nat.zero_le _
 |x :: r,h=>by
  have h1:∀r:List (List UInt8),(∀x∈r,x.length≤40)→(r.flatMap fun y=>32 :: y).length≤41*r.length:=by
   intro r;induction r with
   |nil=>intro _;simp
   |cons y t ih=>
    intro h;have h2:=ih fun z hz=>h z (List.mem_cons_of_mem _ hz)
    have h3:=h y List.mem_cons_self;simp only[List.flatMap_cons,yA,yG]at h2⊢;omega
  have h2:=h1 r fun z hz=>h z (List.mem_cons_of_mem _ hz)
  have h3:=h x List.mem_cons_self;simp only[joinW,yA,yG];omega
theorem line_sh(d:Nat){ws:List (List UInt8)}(e:List UInt8)(h:∀x∈ws,x.length≤40):(lineW d ws e).length≤2*d+41*ws.length+e.length+1:=by
 have h1:=joinW_sh ws h
 have h2:∀d,(ind d).length=2*d:=fun d=>by
  induction d with
  |zero=>rfl
  |succ d ih=>rw[ind,yA,ih];simp;omega
 simp only[lineW,yA,h2,yG,yH];omega
mutual
def shN:Nd→Prop
 |.mk _ ws _ ks=>(ws≠[]∧∀x∈ws,x.length≤40)∧shL ks
def shL:List Nd→Prop
 |[]=>True
 |n :: r=>shN n∧shL r
end
mutual
theorem textN_sh:∀(n:Nd) (d:Nat),shN n→(textN d n).length≤(flatN n).length*(50+2*(d+(flatN n).length))
 |.mk _ ws false _,d,h=>by
  simp only[shN]at h;have h1:=line_sh d [59] h.1.2;have h2:ws.length≠0:=by simpa using h.1.1
  simp only[textN,flatN,yA,yG,yH]at h1⊢
  have h3:(ws.length+(0+1))*50+1*(2*d)≤(ws.length+(0+1))*(50+2*(d+(ws.length+(0+1)))):=by
   rw[Nat.mul_add];exact Nat.add_le_add_left (Nat.mul_le_mul (by omega) (by omega)) _
  omega
 |.mk _ ws true ks,d,h=>by
  simp only[shN]at h;have h1:=line_sh d [32,123] h.1.2;have h2:ws.length≠0:=by simpa using h.1.1
  have h3:=line_sh d [125] (ws:=[]) fun x hx=>by cases hx
  have h4:=textL_sh ks (d+1) h.2;simp only[textN,flatN,yA,yG,yH]at h1 h3⊢;generalize (flatL ks).length=t at h4⊢
  have h5:t*(50+2*(d+1+t))+(ws.length+2)*(50+2*d)≤(ws.length+(t+(0+1)+1))*(50+2*(d+(ws.length+(t+(0+1)+1)))):=by
   rw[show ws.length+(t+(0+1)+1)=t+(ws.length+2) by omega,Nat.add_mul t (ws.length+2)];exact Nat.add_le_add (Nat.mul_le_mul (yI _) (by omega)) (Nat.mul_le_mul (yI _) (by omega))
  have h7:(ws.length+2)*50+2*(2*d)≤(ws.length+2)*(50+2*d):=by
   rw[Nat.mul_add];exact Nat.add_le_add_left (Nat.mul_le_mul (by omega) (yI _)) _
  generalize (ws.length+2)*(50+2*d)=P at h5 h7;generalize t*(50+2*(d+1+t))=R at h4 h5;generalize (ws.length+(t+(0+1)+1))*(50+2*(d+(ws.length+(t+(0+1)+1))))=Z at h5⊢;omega
theorem textL_sh:∀(l:List Nd) (d:Nat),shL l→(textL d l).length≤(flatL l).length*(50+2*(d+(flatL l).length))
 |[],_,_=>by simp only[textL,yH];omega
 |n :: r,d,h=>by
  simp only[shL]at h;have h1:=textN_sh n d h.1;have h2:=textL_sh r d h.2;simp only[textL,flatL,yA];have h3:(flatN n).length*(50+2*(d+(flatN n).length))≤(flatN n).length*(50+2*(d+((flatN n).length+(flatL r).length))):=Nat.mul_le_mul (yI _) (by omega);have h4:(flatL r).length*(50+2*(d+(flatL r).length))≤(flatL r).length*(50+2*(d+((flatN n).length+(flatL r).length))):=Nat.mul_le_mul (yI _) (by omega);rw[Nat.add_mul];omega
end
def shW:List (List UInt8)→Prop
 |[]=>False
 |[x]=>x.length≤40
 |x :: y :: r=>x.length≤40∧shW (y :: r)
theorem shW_mem:∀{ws:List (List UInt8)},shW ws→ws≠[]∧∀x∈ws,x.length≤40
 |[x],h=>⟨by simp,fun y hy=>by rw[List.mem_singleton.1 hy];exact h⟩
 |x :: y :: r,h=>⟨by simp,List.forall_mem_cons.2 ⟨h.1,(shW_mem h.2).2⟩⟩
theorem sL{x:List UInt8}(h:Nat.ble x.length 40=true):x.length≤40:=Nat.le_of_ble_eq_true h
theorem shA:∀{a b:List Nd},shL a→shL b→shL (a++b)
 |[],_,_,h=>h
 |_ :: _,_,h,h' => ⟨h.1,shA h.2 h'⟩
theorem shB{ws:List (List UInt8)}{ks:List Nd}(h:shW ws)(hk:shL ks):shN (bln ws ks):=⟨shW_mem h,hk⟩
theorem shS{ws:List (List UInt8)}(h:shW ws):shN (stn ws):=⟨shW_mem h,trivial⟩
theorem sh1{n:Nd}(h:shN n):shL [n]:=⟨h,trivial⟩
theorem shOn{b:Bool}{n:Nd}(h:b=true→shN n):shL (optN b n):=by
 cases b with
 |true=>exact sh1 (h rfl)
 |false=>exact trivial
theorem shO{b:Bool}{ws:List (List UInt8)}(h:b=true→shW ws):shL (optN b (stn ws)):=shOn fun hb=>shS (h hb)
theorem shM{α:Type}{N:α→Nd}:∀{l:List α},(∀x∈l,shN (N x))→shL (l.map N)
 |[],_=>trivial
 |_ :: _,h=>⟨h _ List.mem_cons_self,shM fun x hx=>h x (List.mem_cons_of_mem _ hx)⟩
theorem shK{α:Type}{N:α→Nd}{l:List α}{w:List UInt8}(hw:w.length≤40)(h:∀x∈l,shN (N x)):shL (if l.isEmpty then []else [bln [w] (l.map N)]):=by
 split
 ·exact trivial
 ·exact sh1 (shB hw (shM h))
theorem zHs{x:List UInt8}(h:nameB x=true):x.length≤40:=by
 cases x with
 |nil=>cases h
 |cons c r=>
  simp only[nameB,Bool.and_eq_true,decide_eq_true_eq]at h;simp only[yG];omega
theorem shNm{w x:List UInt8}(hw:w.length≤40)(h:x=[]∨nameB x=true):shL (nameN w x):=shO fun hb=>⟨hw,zHs (nm_of h hb)⟩
theorem zDx{n:Int}(h:n≤16777215):(decI n).length≤40:=yJ (zGw 8 _ (by omega)) (by decide)
theorem zMd(a:Nat):(fmtA a).length≤40:=yJ (zDd a) (by decide)
theorem sh_host(a:Nat)(n:Int):(hostF a n).length≤19:=by
 unfold hostF;split
 ·have h2:=zDd a
  have h3:(dec n.toNat).length≤2:=zGw 1 _ (by omega);simp only[yA,yG,yH];omega
 ·exact Nat.zero_le _
theorem zLy(a:Nat)(n:Int):(pfxF a n).length≤40:=by
 unfold pfxF;split
 ·exact yJ (sh_host a n) (by decide)
 ·exact Nat.zero_le _
theorem sh_wild(a m:Nat):(wildW a m).length≤40:=by
 have h1:=zDd a;have h2:=zDd m;unfold wildW;split
 ·split
  ·omega
  ·exact yJ (sh_host a _) (by decide)
 ·simp only[yA,yG,yH];omega
theorem sh_port{lo hi:Int}(h1:lo≤65535)(h2:hi≤65535):(portW lo hi).length≤40:=by
 have a:∀n:Int,n≤65535→(decI n).length≤5:=fun n h=>zGw 4 _ (by omega)
 have a1:=a lo h1;have a2:=a hi h2;unfold portW;split
 ·omega
 ·simp only[yA,yG,yH];omega
theorem sh_prot{n:Int}(h:n≤255):(protW n).length≤40:=by
 unfold protW;split
 ·decide
 split
 ·decide
 ·exact zDx (by omega)
theorem sh_src(n:Int):(srcN n).length≤40:=by
 unfold srcN
 (repeat' split)<;>decide
theorem sh_if{x:If}(hx:zDj x=true)(hn:nameB x.name=true)(hi:(x.inn=[]∨nameB x.inn=true)∧(x.out=[]∨nameB x.out=true)):shN (ifN x):=by
 obtain⟨k1,k2,k3,k4,k5,k6,k7⟩:=ifc_ok hx;refine shB (zHs hn) (shA (shO fun h=>⟨sL rfl,yJ (sh_host _ _) (by decide)⟩) (shA (shO fun h=>⟨sL rfl,zDx (by omega)⟩) (shA (shO fun h=>sL rfl) (shA (shO fun h=>⟨sL rfl,sL rfl,zDx (by have:=k6 h;omega),sL rfl,zDx (by have:=k6 h;omega)⟩) (shA (shO fun h=>sL rfl) (shA (shNm (sL rfl) hi.1) (shA (shNm (sL rfl) hi.2) ?_)))))));show shL (sideN x.side);unfold sideN;split
 ·exact sh1 (shS ⟨sL rfl,sL rfl⟩)
 ·exact shO fun _=>⟨sL rfl,sL rfl⟩
theorem sh_cl{x:Cl}(hx:zDg x=true)(hl:x.list=[]∨nameB x.list=true):shN (clN x):=by
 obtain⟨k1,k2,k3,k4,k5⟩:=cl_ok hx;refine shB (sL rfl) (shA (shO fun h=>⟨sL rfl,sL rfl,zHs (nm_of hl h)⟩) (shA (shO fun h=>⟨sL rfl,sL rfl,zDx (by omega)⟩) (shA (shO fun h=>⟨sL rfl,sL rfl,zDx (by omega)⟩) (shA (shO fun h=>⟨sL rfl,sL rfl,zDx (by omega)⟩) (shA (shO fun h=>⟨sL rfl,sL rfl,zDx (by omega)⟩) (shA (shO fun h=>⟨sL rfl,sL rfl,zDx (by omega)⟩) ?_))))));refine sh1 (shS ?_);cases x.permit<;>exact sL rfl
theorem sh_ru{x:Ru}(hx:zDl x=true):shN (ruN x):=by
 obtain⟨k1,k2,k3,k4,k5⟩:=ru_ok hx;refine shB (sL rfl) (shA (shO fun h=>⟨sL rfl,sh_prot k1.2⟩) (shA (shO fun h=>⟨sL rfl,sh_wild _ _⟩) (shA (shO fun h=>⟨sL rfl,sh_wild _ _⟩) (shA (shO fun h=>⟨sL rfl,sh_port (by omega) (by omega)⟩) (shA (shO fun h=>⟨sL rfl,sh_port (by omega) (by omega)⟩) ?_)))));refine sh1 (shS ?_);cases x.permit<;>exact sL rfl
theorem sh_pr{x:PRule}(hx:zFa x=true):shN (prN x):=by
 obtain⟨v,h1,h2,h3⟩:=pr_ok hx;refine shS ?_;unfold zDp;have hp:=zLy x.pa x.pl;cases x.permit<;>(repeat' split)<;>first|exact⟨sL rfl,hp,sL rfl⟩|exact⟨sL rfl,hp,sL rfl,zDx (by omega)⟩|exact⟨sL rfl,hp,sL rfl,zDx (by omega),zDx (by omega)⟩
theorem sh_tr{x:Tr}(hx:zBl x=true)(hl:x.kind=2→nameB x.list=true):shN (stn (trW x)):=by
 refine shS ?_;unfold trW;unfold zBl at hx;split
 ·exact⟨sL rfl,zMd _,zMd _⟩
 ·rename_i h1
  split
  ·rename_i h2
   exact⟨sL rfl,zHs (hl (by simpa using h2)),zMd _,zMd _⟩
  ·rename_i h2
   rw[if_neg (by simpa using h1),if_neg (by simpa using h2)]at hx;split at hx
   ·simp only[Bool.and_eq_true,Bool.or_eq_true,beq_iff_eq]at hx
    obtain⟨⟨⟨⟨⟨⟨⟨_,_⟩,h3⟩,h4⟩,h5⟩,_⟩,_⟩,_⟩:=hx;have i1:=zAp h4;have i2:=zAp h5;exact⟨sL rfl,sh_prot (by omega),zMd _,zDx (by omega),zMd _,zDx (by omega)⟩
   ·cases hx
theorem sh_sr{x:Sr}(hi:x.iface=[]∨nameB x.iface=true)(ha:1≤x.admin∧x.admin≤255)(ht:0≤x.tag∧x.tag≤65535):shN (srN x):=by
 refine shB ⟨sL rfl,zLy _ _⟩ (shA (a:=[goalN x]) (sh1 (shS ?_)) (shA (sh1 (shS ⟨sL rfl,zDx (by omega)⟩)) (shO fun _=>⟨sL rfl,zDx (by omega)⟩)));split
 ·exact⟨sL rfl,zMd _⟩
 split
 ·rename_i h;exact⟨sL rfl,zHs (nm_of hi h)⟩
 ·exact sL rfl
theorem sh_rd{maps:List RMap}{into least most types:Int}{l:List Rd}(h:redE maps into least most types l=0)(hv:∀x∈maps,nameB x.name=true)(h1:most≤16777215)(h2:types≤2):shL (l.map rdN):=shM fun x hx=>by
 obtain⟨k,hk,rfl⟩:=List.getElem_of_mem hx;obtain⟨_,m,t,y,n⟩:=red_ok ((zGm (by decide) h).2 k hk).1 hv;exact shB ⟨sL rfl,sh_src _⟩ (shA (sh1 (shS ⟨sL rfl,zDx (by omega)⟩)) (shA (shO fun _=>⟨sL rfl,zDx (by omega)⟩) (shA (shNm (sL rfl) n) (shO fun _=>⟨sL rfl,zDx (by omega)⟩))))
theorem zGz{α:Type}{l:List α}{P:α→Prop}(h:∀k (hk:k<l.length),P l[k]):∀x∈l,P x:=fun x hx=>by
 obtain⟨k,hk,rfl⟩:=List.getElem_of_mem hx;exact h k hk
theorem zEb{α:Type}{most:Nat}{f:α→Int}{c:α→α→Bool}{err:Int}{l:List α}(he:err≠0)(h:pairE most f c err l=0):∀x∈l,f x=0:=zGz fun k hk=>((zGm he h).2 k hk).1
theorem zGn{α β:Type}{name:α→List UInt8}{len:α→Nat}{sub:α→List β}{f:β→Int}{most:Int}{l:List α}(h:lsE name len (fun x=>zAk f (sub x)) most l=0):∀x∈l,∀y∈sub x,f y=0 :=
 zGz fun k hk=>zIz ((ls_ok h).2 k hk).2.2.2.2
theorem valid_sh{r:Rt}(h:zBw r=0):shL (fmtN r):=by
 obtain⟨z1,z2,z3,z4,z5,z6,z7,z8,z9,z10,z11,z12⟩:=zKn h;have vI:∀x∈r.ifs,nameB x.name=true:=zGz fun k hk=>((ifs_ok z3).2 k hk).1
 have vL:∀x∈r.lists,nameB x.name=true:=zGz fun k hk=>((ls_ok z4).2 k hk).1
 have vM:∀x∈r.maps,nameB x.name=true:=zGz fun k hk=>((ls_ok z5).2 k hk).1
 have vA:∀x∈r.acls,nameB x.name=true:=zGz fun k hk=>((ls_ok z6).2 k hk).1
 have aD:=zAp z2;unfold fmtN;refine shA (sh1 (shB (sL rfl) (shA (sh1 (shS ⟨sL rfl,zHs z1⟩)) (shO fun _=>⟨sL rfl,zDx (by omega)⟩)))) (shA (shK (sL rfl) (zGz fun k hk=>sh_if ((ifs_ok z3).2 k hk).2.2.1 ((ifs_ok z3).2 k hk).1 (two_has vA (zIz z8 _ (List.getElem_mem hk))))) (shA (shM fun x hx=>shB ⟨sL rfl,zHs (vL x hx)⟩ (shM fun y hy=>?_)) (shA (shM fun x hx=>shB ⟨sL rfl,zHs (vM x hx)⟩ (shM fun y hy=>?_)) (shA (shM fun x hx=>shB ⟨sL rfl,zHs (vA x hx)⟩ (shM fun y hy=>?_)) (shA (shK (sL rfl) fun x hx=>?_) (shA (shK (sL rfl) fun x hx=>?_) (shA (shOn fun ho=>?_) (shA (shOn fun ho=>?_) (shOn fun ho=>?_)))))))))
 ·exact sh_pr (zFy (zGn (sub:=fun x:PList=>x.rules) (f:=prE) (show lsE (·.name) (·.rules.length) (fun x=>zAk prE x.rules) 16 r.lists=0 from z4) x hx y hy))
 ·have:=zGn (sub:=fun x:RMap=>x.clauses) (f:=clE r.lists) (show lsE (·.name) (·.clauses.length) (fun x=>zAk (clE r.lists) x.clauses) 8 r.maps=0 from z5) x hx y hy
  unfold clE at this;split at this
  ·cases this
  ·rename_i h7
   refine sh_cl (zFy this) (zNa vL ?_);simpa [zAx] using h7
 ·exact sh_ru (zFy (zGn (sub:=fun x:AList=>x.rules) (f:=ruE) (show lsE (·.name) (·.rules.length) (fun x=>zAk ruE x.rules) 16 r.acls=0 from z6) x hx y hy))
 ·unfold natsE at z7
  split at z7
  ·cases z7
  ·obtain⟨g1,g2⟩:=natR_ok (zIz z7 x hx) vA
   exact sh_tr g1 g2
 ·have h3:=zEb (by decide) z9 x hx
  unfold staF at h3;obtain⟨h4,h3⟩:=zDh h3;unfold zGj at h4;simp only[Bool.and_eq_true]at h4;refine sh_sr ?_ (zAp h4.1.2) (zAp h4.2);cases hn:x.iface with
  |nil=>exact .inl rfl
  |cons u t=>
   rw[hn]at h3;simp only[List.isEmpty_cons,Bool.false_eq_true,if_false]at h3;refine .inr (name_in vI fun h6=>?_);rw[if_pos h6]at h3;cases h3
 ·unfold lnkE at z10
  rw[ho,if_pos rfl]at z10;obtain⟨hw,h⟩:=zDh z10;obtain⟨g1,g2⟩:=zCe h;have A:=zAp hw;refine shB (sL rfl) ⟨shS ⟨sL rfl,zDx (by omega)⟩,shA (shM fun x hx=>?_) (sh_rd g2 vM (by decide) (by decide))⟩;have:=zFy (zEb (by decide) g1 x hx);simp only[Bool.and_eq_true]at this;have B:=zAp this.1;exact shS ⟨sL rfl,zDx (by omega),zLy _ _⟩
 ·unfold dvE at z11
  rw[ho,if_pos rfl]at z11;obtain⟨hw,h⟩:=zDh z11;obtain⟨g1,g2⟩:=zCe h;have A:=zAp hw;obtain⟨n1,n2⟩:=two_has vL g1;exact shB (sL rfl) ⟨shS ⟨sL rfl,zDx (by omega)⟩,shA (shNm (sL rfl) n1) (shA (shNm (sL rfl) n2) (sh_rd g2 vM (by decide) (by decide)))⟩
 ·unfold pvE at z12
  rw[ho,if_pos rfl]at z12;obtain⟨hw,h⟩:=zDh z12;simp only[Bool.and_eq_true]at hw;obtain⟨g1,h⟩:=zCe h;have A:=zAp hw.1.2;have B:=zAp hw.2;refine shB (sL rfl) ⟨shS ⟨sL rfl,sL rfl,zDx (by omega)⟩,shS ⟨sL rfl,sL rfl,zDx (by omega)⟩,shA (shM fun x hx=>?_) (shA (shM fun x hx=>shS ⟨sL rfl,zLy _ _⟩) (shA (shM fun x hx=>shS ?_) (shA (shM fun x hx=>shS ⟨sL rfl,zLy _ _,?_,zLy _ _⟩) (sh_rd (zCe h).2 vM (by decide) (by decide)))))⟩
  ·have h3:=zEb (by decide) g1 x hx
   unfold nbF at h3;obtain⟨h4,h3⟩:=zDh h3;rw[Bool.and_eq_true]at h4;have C:=zAp h4.2;obtain⟨n1,n2⟩:=two_has vM h3;exact shB ⟨sL rfl,zMd _⟩ (shA (sh1 (shS ⟨sL rfl,zDx (by omega)⟩)) (shA (shNm (sL rfl) n1) (shNm (sL rfl) n2)))
  ·cases x.only
   ·exact⟨sL rfl,zLy _ _⟩
   ·exact⟨sL rfl,zLy _ _,sL rfl⟩
  ·cases x.absent<;>exact sL rfl
theorem zFl(a b:List Nd):flatL (a++b)=flatL a++flatL b:=by
 induction a with
 |nil=>simp only[List.nil_append,flatL]
 |cons x r ih=>simp only[List.cons_append,flatL,ih,yE]
theorem flat_opt(b:Bool)(n:Nd):(flatL (optN b n)).length≤(flatN n).length:=by
 cases b with
 |true=>simp only[optN,if_true,flatL,yF];omega
 |false=>simp only[optN,Bool.false_eq_true,if_false,flatL,yH];omega
theorem zDc{α:Type}(N:α→Nd)(c:Nat){m:Nat}:∀{l:List α},l.length≤m→(∀x∈l,(flatN (N x)).length≤c)→(flatL (l.map N)).length≤m*c:=by
 intro l;induction l generalizing m with
 |nil=>intro _ _;simp[flatL]
 |cons x r ih=>
  intro hm h;obtain⟨k,rfl⟩:∃k,m=k+1:=⟨m - 1,by simp only[yG]at hm;omega⟩;have h1:=ih (m:=k) (by simp only[yG]at hm;omega) fun y hy=>h y (List.mem_cons_of_mem _ hy)
  have h2:=h x List.mem_cons_self;simp only[List.map_cons,flatL,yA,Nat.add_mul];omega
theorem zHa(ws:List (List UInt8)):(flatN (stn ws)).length=ws.length+1:=by simp only[stn,flatN,yA,yG,yH]
theorem zIh(ws:List (List UInt8))(ks:List Nd):(flatN (bln ws ks)).length=ws.length+(flatL ks).length+2:=by
 simp only[bln,flatN,yA,yG,yH];omega
theorem zHk(n:Nd):(flatL [n]).length=(flatN n).length:=by simp only[flatL,yF]
theorem zDs(b:Bool)(ws:List (List UInt8))(c:Nat)(h:ws.length+1≤c):(flatL (optN b (stn ws))).length≤c:=yJ (flat_opt b _) (by rw[zHa];exact h)
theorem if_le(x:If):(flatN (ifN x)).length≤40:=by
 have h0:(flatL (ifP 0 x)).length≤3:=zDs _ _ _ (by simp);have h1:(flatL (ifP 1 x)).length≤3:=zDs _ _ _ (by simp);have h2:(flatL (ifP 2 x)).length≤2:=zDs _ _ _ (by simp);have h3:(flatL (ifP 3 x)).length≤6:=zDs _ _ _ (by simp);have h4:(flatL (ifP 4 x)).length≤2:=zDs _ _ _ (by simp);have h5:(flatL (ifP 5 x)).length≤3:=zDs _ _ _ (by simp);have h6:(flatL (ifP 6 x)).length≤3:=zDs _ _ _ (by simp)
 have h7:(flatL (ifP 7 x)).length≤3:=by
  show(flatL (sideN x.side)).length≤3;unfold sideN;split
  ·rw[zHk,zHa];simp
  ·exact zDs _ _ _ (by simp)
 rw[ifN,zIh,ifK];simp only[zFl,yA,yG,yH];omega
theorem pr_le(x:PRule):(flatN (prN x)).length≤6:=by
 rw[prN,zHa];unfold zDp
 (repeat' split)<;>simp
theorem cl_le(x:Cl):(flatN (clN x)).length≤40:=by
 have h0:(flatL (clP 0 x)).length≤4:=zDs _ _ _ (by simp);have h1:(flatL (clP 1 x)).length≤4:=zDs _ _ _ (by simp);have h2:(flatL (clP 2 x)).length≤4:=zDs _ _ _ (by simp);have h3:(flatL (clP 3 x)).length≤4:=zDs _ _ _ (by simp);have h4:(flatL (clP 4 x)).length≤4:=zDs _ _ _ (by simp);have h5:(flatL (clP 5 x)).length≤4:=zDs _ _ _ (by simp)
 have h6:(flatL (clP 6 x)).length≤2:=by
  show(flatL [stn [_]]).length≤2;rw[zHk,zHa];simp
 rw[clN,zIh,clK];simp only[zFl,yA,yG,yH];omega
theorem ru_le(x:Ru):(flatN (ruN x)).length≤40:=by
 have h0:(flatL (ruP 0 x)).length≤3:=zDs _ _ _ (by simp);have h1:(flatL (ruP 1 x)).length≤3:=zDs _ _ _ (by simp);have h2:(flatL (ruP 2 x)).length≤3:=zDs _ _ _ (by simp);have h3:(flatL (ruP 3 x)).length≤3:=zDs _ _ _ (by simp);have h4:(flatL (ruP 4 x)).length≤3:=zDs _ _ _ (by simp)
 have h5:(flatL (ruP 5 x)).length≤2:=by
  show(flatL [stn [_]]).length≤2;rw[zHk,zHa];simp
 rw[ruN,zIh,ruK];simp only[zFl,yA,yG,yH];omega
theorem tr_le(x:Tr):(flatN (stn (trW x))).length≤7:=by
 rw[zHa];unfold trW
 (repeat' split)<;>simp
theorem sr_le(x:Sr):(flatN (srN x)).length≤20:=by
 have h0:(flatL (srP 0 x)).length≤3:=by
  show(flatL [goalN x]).length≤3;rw[zHk,goalN,zHa]
  (repeat' split)<;>simp
 have h1:(flatL (srP 1 x)).length≤3:=by
  show(flatL [stn [_,_]]).length≤3;rw[zHk,zHa];simp
 have h2:(flatL (srP 2 x)).length≤3:=zDs _ _ _ (by simp);rw[srN,zIh,srK];simp only[zFl,yA,yG,yH];omega
theorem rd_le(x:Rd):(flatN (rdN x)).length≤20:=by
 have h0:(flatL (rdP 0 x)).length≤3:=by
  show(flatL [stn [_,_]]).length≤3;rw[zHk,zHa];simp
 have h1:(flatL (rdP 1 x)).length≤3:=zDs _ _ _ (by simp);have h2:(flatL (rdP 2 x)).length≤3:=zDs _ _ _ (by simp);have h3:(flatL (rdP 3 x)).length≤3:=zDs _ _ _ (by simp);rw[rdN,zIh,rdK];simp only[zFl,yA,yG,yH];omega
theorem nb_le(x:Nb):(flatN (nbN x)).length≤20:=by
 have h0:(flatL (nbP 0 x)).length≤3:=by
  show(flatL [stn [_,_]]).length≤3;rw[zHk,zHa];simp
 have h1:(flatL (nbP 1 x)).length≤3:=zDs _ _ _ (by simp);have h2:(flatL (nbP 2 x)).length≤3:=zDs _ _ _ (by simp);rw[nbN,zIh,nbK];simp only[zFl,yA,yG,yH];omega
theorem block_le{α:Type}(l:List α)(w:List UInt8)(N:α→Nd)(c m:Nat)(h:(flatL (l.map N)).length≤m)(hc:m+3≤c):(flatL (if l.isEmpty then []else [bln [w] (l.map N)])).length≤c:=by
 split
 ·simp[flatL]
 ·rw[zHk,zIh];simp only[yG,yH];omega
theorem opt_bl{b:Bool}{w:List UInt8}{ks:List Nd}{c m:Nat}(h:(flatL ks).length≤m)(hc:m+3≤c):(flatL (optN b (bln [w] ks))).length≤c :=
 yJ (flat_opt b _) (by rw[zIh];simp only[yG,yH];omega)
structure Shorts (r:Rt):Prop where
 ifs:r.ifs.length≤16
 lists:r.lists.length≤16∧∀x∈r.lists,x.rules.length≤16
 maps:r.maps.length≤16∧∀x∈r.maps,x.clauses.length≤16
 acls:r.acls.length≤16∧∀x∈r.acls,x.rules.length≤16
 nat:r.nat.length≤16
 stat:r.stat.length≤16
 ranges:r.ranges.length≤16
 lsRed:r.lsRed.length≤16
 dvRed:r.dvRed.length≤16
 nb:r.nb.length≤16
 net:r.net.length≤16
 ag:r.ag.length≤16
 cd:r.cd.length≤16
 pvRed:r.pvRed.length≤16
theorem flat_len{r:Rt}(h:Shorts r):(flatL (fmtN r)).length≤100000:=by
 have h1:(flatL (sysN r)).length≤20:=by
  have a0:(flatL (sysP 0 r)).length≤3:=by
   show(flatL [stn [_,_]]).length≤3;rw[zHk,zHa];simp
  have a1:(flatL (sysP 1 r)).length≤3:=zDs _ _ _ (by simp);rw[sysN,zHk,zIh,zFl,yA];simp only[yG,yH];omega
 have h2:(flatL (ifsN r.ifs)).length≤700:=block_le _ _ _ _ (16*40) (zDc ifN 40 h.ifs fun x _=>if_le x) (by omega)
 have h3:(flatL (r.lists.map listN)).length≤16*200:=zDc listN 200 h.lists.1 fun x hx=>by
  have:=zDc prN 6 (h.lists.2 x hx) fun y _=>pr_le y
  rw[listN,zIh];simp only[yG,yH];omega
 have h4:(flatL (r.maps.map mapN)).length≤16*700:=zDc mapN 700 h.maps.1 fun x hx=>by
  have:=zDc clN 40 (h.maps.2 x hx) fun y _=>cl_le y
  rw[mapN,zIh];simp only[yG,yH];omega
 have h5:(flatL (r.acls.map aclN)).length≤16*700:=zDc aclN 700 h.acls.1 fun x hx=>by
  have:=zDc ruN 40 (h.acls.2 x hx) fun y _=>ru_le y
  rw[aclN,zIh];simp only[yG,yH];omega
 have h6:(flatL (natN r.nat)).length≤200:=block_le _ _ _ _ (16*7) (zDc (fun x=>stn (trW x)) 7 h.nat fun x _=>tr_le x) (by omega);have h7:(flatL (statN r.stat)).length≤400:=block_le _ _ _ _ (16*20) (zDc srN 20 h.stat fun x _=>sr_le x) (by omega);have r1:=zDc rdN 20 h.lsRed fun x _=>rd_le x
 have r2:=zDc rdN 20 h.dvRed fun x _=>rd_le x
 have r3:=zDc rdN 20 h.pvRed fun x _=>rd_le x
 have p1:∀a b:List UInt8,(flatN (stn [a,b])).length=3:=fun a b=>by rw[zHa];rfl
 have p2:∀a b c:List UInt8,(flatN (stn [a,b,c])).length=4:=fun a b c=>by rw[zHa];rfl
 have h8:(flatL (lsN r)).length≤1000:=by
  have:=zDc (fun a:AR=>stn [[114,97,110,103,101],decI a.area,pfxF a.pa a.pl]) 4 h.ranges fun x _=>Nat.le_of_eq (p2 _ _ _)
  refine opt_bl (m:=900) ?_ (by omega);simp only[flatL,zFl,yA,p1];omega
 have h9:(flatL (dvN r)).length≤1000:=by
  have a:∀u v:List UInt8,(flatL (nameN u v)).length≤3:=fun u v=>zDs _ _ _ (by simp)
  have a1:=a [105,110,112,117,116] r.dvIn;have a2:=a [111,117,116,112,117,116] r.dvOut;refine opt_bl (m:=900) ?_ (by omega);simp only[flatL,zFl,yA,p1];omega
 have h10:(flatL (pvN r)).length≤3000:=by
  have a1:=zDc nbN 20 h.nb fun x _=>nb_le x
  have a2:=zDc (fun p:Pf=>stn [[110,101,116,119,111,114,107],pfxF p.pa p.pl]) 3 h.net fun x _=>Nat.le_of_eq (p1 _ _)
  have a3:=zDc agN 4 h.ag fun x _=>by rw[agN,zHa];split<;>simp
  have a4:=zDc cdN 5 h.cd fun x _=>by rw[cdN,zHa];simp
  refine opt_bl (m:=2900) ?_ (by omega);simp only[flatL,zFl,yA,p2];omega
 unfold fmtN;simp only[zFl,yA];omega
theorem red_len{maps:List RMap}{a b c d:Int}{l:List Rd}(h:redE maps a b c d l=0):l.length≤16:=yJ (zGm (by decide) h).1 (by decide)
theorem valid_shorts{r:Rt}(h:zBw r=0):Shorts r:=by
 obtain⟨z1,z2,z3,z4,z5,z6,z7,z8,z9,z10,z11,z12⟩:=zKn h
 have hls:r.ranges.length≤16∧r.lsRed.length≤16:=by
  unfold lnkE at z10;cases ho:r.lsOn with
  |true=>
   rw[ho,if_pos rfl]at z10;obtain⟨a,b⟩:=zCe (zDh z10).2;exact⟨yJ (zGm (by decide) a).1 (by decide),red_len b⟩
  |false=>
   rw[ho,if_neg (by decide)]at z10
   have h4:(!(r.lsAdmin==0)||decide ((0:Int)<r.ranges.length)||decide ((0:Int)<r.lsRed.length))=false:=by
    rw[←Bool.not_eq_true];intro e;rw[if_pos e]at z10;cases z10
   simp only[Bool.or_eq_false_iff]at h4;rw[zHd h4.1.2,zHd h4.2];exact⟨by simp,by simp⟩
 have hdv:r.dvRed.length≤16:=by
  unfold dvE at z11;cases ho:r.dvOn with
  |true=>
   rw[ho,if_pos rfl]at z11;exact red_len (zCe (zDh z11).2).2
  |false=>
   rw[ho,if_neg (by decide)]at z11
   have h4:(!(r.dvAdmin==0) || !r.dvIn.isEmpty || !r.dvOut.isEmpty||decide ((0:Int)<r.dvRed.length))=false:=by
    rw[←Bool.not_eq_true];intro e;rw[if_pos e]at z11;cases z11
   simp only[Bool.or_eq_false_iff]at h4;rw[zHd h4.2];simp
 have hpv:r.nb.length≤16∧r.net.length≤16∧r.ag.length≤16∧r.cd.length≤16∧r.pvRed.length≤16:=by
  unfold pvE at z12;cases ho:r.pvOn with
  |true=>
   rw[ho,if_pos rfl]at z12;obtain⟨g1,h⟩:=zCe (zDh z12).2;obtain⟨g2,g3⟩:=zCe h;unfold origE at g2;obtain⟨g4,g2⟩:=zCe g2;obtain⟨g5,g6⟩:=zCe g2;exact⟨yJ (zGm (by decide) g1).1 (by decide),yJ (zGm (by decide) g4).1 (by decide),yJ (zGm (by decide) g5).1 (by decide),yJ (zGm (by decide) g6).1 (by decide),red_len g3⟩
  |false=>
   rw[ho,if_neg (by decide)]at z12;split at z12
   ·cases z12
   ·rename_i h8
    rw[Bool.not_eq_true]at h8;simp only[Bool.or_eq_false_iff]at h8;obtain⟨_,_,y3,y4,y5,y6,y7⟩:=h8;rw[zHd y3,zHd y4,zHd y5,zHd y6,zHd y7];simp
 obtain⟨a1,a2⟩:=ls_ok z4;obtain⟨b1,b2⟩:=ls_ok z5;obtain⟨c1,c2⟩:=ls_ok z6;refine⟨by have:=(ifs_ok z3).1;omega,⟨by omega,zGz fun k hk=>by have:=(a2 k hk).2.2.2.1;omega⟩,⟨by omega,zGz fun k hk=>by have:=(b2 k hk).2.2.2.1;omega⟩,⟨by omega,zGz fun k hk=>by have:=(c2 k hk).2.2.2.1;omega⟩,?_,(zGm (by decide) z9).1,hls.1,hls.2,hdv,hpv.1,hpv.2.1,hpv.2.2.1,hpv.2.2.2.1,hpv.2.2.2.2⟩;unfold natsE at z7;split at z7
 ·cases z7
 ·omega
theorem zJj{r:Rt}(h:zBw r=0)(_hf:r.fit):(textL 0 (fmtN r)).length≤30000000000:=by
 have h1:=textL_sh (fmtN r) 0 (valid_sh h);have h2:=flat_len (valid_shorts h);have h3:(flatL (fmtN r)).length*(50+2*(0+(flatL (fmtN r)).length))≤100000*(50+2*(0+100000)):=Nat.mul_le_mul h2 (by omega);omega
end Go.Proofs.YtdlgnhefpoalnaaGreatDoor
