/- The reference's writer of dialect Alpha: structs in blocks of the call's own; a sum of strings in a walk. No condition. -/
import Derived.Test.YthcnojmldldpeaaGreatDoorGaa
namespace Go.Proofs.YthcnojmldldpeaaGreatDoor
open Lib (hid)
theorem go_ok{n:Nat}{G:Nat→Int}{P:(k:Nat)→k<n→Prop}(hs:∀k (h:k<n),G k=0→P k h∧G (k+1)=0)(h0:G 0=0):∀k (h:k<n),P k h:=by
 have hg:∀k,k≤n→G k=0:=by
  intro k;induction k with
  |zero=>exact fun _=>h0
  |succ k ih=>exact fun h=>(hs k h (ih (Nat.le_of_succ_le h))).2
 exact fun k h=>(hs k h (hg k (Nat.le_of_lt h))).1
theorem take_any{α:Type}{l:List α}{p:α→Bool}{k:Nat}(h:¬(l.take k).any p=true)(j:Nat)(hjn:j<l.length)(hj:j<k):p l[j]=false:=by
 cases hp:p l[j]with
 |false=>rfl
 |true=>exact absurd (List.any_eq_true.2 ⟨l[j],List.mem_take_iff_getElem.2 ⟨j,by omega,rfl⟩,hp⟩) h
theorem idxF_ge{α:Type}{p:α→Bool}:∀{l:List α} {i k:Nat},¬idxF p l i<k→∀j (hj:j<l.length),i+j<k→p l[j]=false
 |[],_,_,_,_,hj,_=>absurd hj (Nat.not_lt_zero _)
 |y :: r,i,k,h,j,hj,hk=>by
  unfold idxF at h;cases hp:p y with
  |true=>rw[if_pos hp]at h;exact absurd (show(i:Int)<k by omega) h
  |false=>
   rw[if_neg (by rw[hp];decide)]at h
   match j,hj with
   |0,_=>exact hp
   |j+1,hj=>exact idxF_ge (l:=r) h j (by simpa using hj) (by omega)
theorem zHg{β:Type}{f:β→Int}:∀{l:List β},zAl f l=0→∀x∈l,f x=0
 |[],_,_,h=>by cases h
 |y :: r,h,x,hx=>by
  unfold zAl at h;by_cases h0:f y=0
  ·rw[if_pos h0]at h
   rcases List.mem_cons.1 hx with rfl|hx
   ·exact h0
   ·exact zHg h x hx
  ·rw[if_neg h0]at h
   exact absurd h h0
theorem ifs_ok{l:List If}(h:ifsE l=0):l.length≤8∧∀k (hk:k<l.length),nameB l[k].name=true∧(∀j (hj:j<l.length),j<k→(l[j].name==l[k].name)=false)∧zCs l[k]=true∧∀j (hj:j<l.length),j<k→zCw l[k] l[j]=false:=by
 unfold ifsE at h;by_cases h8:8<l.length
 ·rw[if_pos h8]at h;cases h
 rw[if_neg h8]at h;refine⟨by omega,go_ok (G:=fun k=>ifsGo l (l.drop k) k) (fun k hk h=>?_) h⟩;have h2:=ifsGo_at hk h;cases hn:nameB l[k].name with
 |false=>rw[hn]at h2;cases h2
 |true=>
 rw[hn]at h2;simp only[Bool.not_true,Bool.false_eq_true,if_false]at h2;by_cases h3:idxF (fun y=>y.name==l[k].name) l 0<k
 ·rw[if_pos h3]at h2;cases h2
 rw[if_neg h3]at h2;cases hr:zCs l[k]with
 |false=>rw[hr]at h2;cases h2
 |true=>
 rw[hr]at h2;simp only[Bool.not_true,Bool.false_eq_true,if_false]at h2;by_cases h4:(l.take k).any (zCw l[k])=true
 ·rw[if_pos h4]at h2;cases h2
 rw[if_neg h4]at h2;exact⟨⟨rfl,fun j hj hjk=>idxF_ge h3 j hj (by omega),rfl,take_any h4⟩,h2.symm⟩
theorem listE_ok{k first size most:Int}{name:List UInt8}(h:listE k first name size most=0):nameB name=true∧¬first<k∧size≠0∧size≤most:=by
 unfold listE at h;cases hn:nameB name with
 |false=>rw[hn]at h;cases h
 |true=>
 rw[hn]at h;simp only[Bool.not_true,Bool.false_eq_true,if_false]at h;by_cases h1:first<k
 ·rw[if_pos h1]at h;cases h
 by_cases h2:size=0
 ·rw[if_neg h1,if_pos h2]at h;cases h
 by_cases h3:most<size
 ·rw[if_neg h1,if_neg h2,if_pos h3]at h;cases h
 exact⟨rfl,h1,h2,by omega⟩
theorem ls_ok{α:Type}{name:α→List UInt8}{len:α→Nat}{inner:α→Int}{most:Int}{l:List α}(h:lsE name len inner most l=0):l.length≤8∧∀k (hk:k<l.length),nameB (name l[k])=true∧(∀j (hj:j<l.length),j<k→(name l[j]==name l[k])=false)∧(len l[k]:Int)≠0∧(len l[k]:Int)≤most∧inner l[k]=0:=by
 unfold lsE at h;by_cases h8:8<l.length
 ·rw[if_pos h8]at h;cases h
 rw[if_neg h8]at h;refine⟨by omega,go_ok (G:=fun k=>lsGo name len inner most l (l.drop k) k) (fun k hk h=>?_) h⟩;have h2:=zIc hk h;by_cases h3:listE k (idxF (fun y=>name y==name l[k]) l 0) (name l[k]) (len l[k]) most=0
 ·rw[if_pos h3]at h2
  obtain⟨e1,e2,e3,e4⟩:=listE_ok h3;by_cases h4:inner l[k]=0
  ·rw[if_pos h4]at h2
   exact⟨⟨e1,fun j hj hjk=>idxF_ge e2 j hj (by omega),e3,e4,h4⟩,h2.symm⟩
  ·rw[if_neg h4]at h2;exact absurd h2.symm h4
 ·rw[if_neg h3]at h2;exact absurd h2.symm h3
theorem zFi{α:Type}{most:Nat}{f:α→Int}{c:α→α→Bool}{err:Int}{l:List α}(he:err≠0)(h:pairE most f c err l=0):l.length≤most∧∀k (hk:k<l.length),f l[k]=0∧∀j (hj:j<l.length),j<k→c l[k] l[j]=false:=by
 unfold pairE at h;by_cases h8:most<l.length
 ·rw[if_pos h8]at h;cases h
 rw[if_neg h8]at h;refine⟨by omega,go_ok (G:=fun k=>zAt f c err l (l.drop k) k) (fun k hk h=>?_) h⟩;have h2:=zCk hk h;by_cases h3:f l[k]=0
 ·rw[if_pos h3]at h2
  by_cases h4:(l.take k).any (c l[k])=true
  ·rw[if_pos h4]at h2;exact absurd h2.symm he
  ·rw[if_neg h4]at h2
   exact⟨⟨h3,take_any h4⟩,h2.symm⟩
 ·rw[if_neg h3]at h2;exact absurd h2.symm h3
theorem zBv{a b:Int}(h:(if a=0 then b else a)=0):a=0∧b=0:=by
 by_cases h0:a=0
 ·rw[if_pos h0]at h;exact⟨h0,h⟩
 ·rw[if_neg h0]at h;exact absurd h h0
theorem zIt{r:Rt}(h:zBp r=0):nameB r.name=true∧zAb r.asn 0 65535=true∧ifsE r.ifs=0∧plsE r.lists=0∧mapsE r.lists r.maps=0∧aclsE r.acls=0∧natsE r.acls r.nat=0∧zAl (filtE r.acls) r.ifs=0∧zJo r.ifs r.stat=0∧lnkE r=0∧dvE r=0∧pvE r=0:=by
 unfold zBp at h;cases hn:nameB r.name with
 |false=>rw[hn]at h;cases h
 |true=>
 rw[hn]at h;simp only[Bool.not_true,Bool.false_eq_true,if_false]at h;cases hw:zAb r.asn 0 65535 with
 |false=>rw[hw]at h;cases h
 |true=>
 rw[hw]at h;simp only[Bool.not_true,Bool.false_eq_true,if_false]at h;have hf:=zHg h;unfold secsE at hf;simpa using hf
end Go.Proofs.YthcnojmldldpeaaGreatDoor
namespace Go.Proofs.YthcnojmldldpeaaGreatDoor
open Lib (hid)
open Go.RowKit
def joinW:List (List UInt8)→List UInt8
 |[]=>[]
 |x :: r=>x++r.flatMap fun y=>32 :: y
def decI(n:Int):List UInt8:=dec n.toNat
def protW(n:Int):List UInt8:=if n==6 then [116,99,112]else if n==17 then [117,100,112]else decI n
def wildW(a m:Nat):List UInt8:=match zBh (4294967295 - m) 33 with
 |some n=>if n=32 then fmtA a else hostF a n
 |none=>fmtA a++[126]++fmtA m
def portW(lo hi:Int):List UInt8:=if lo==hi then decI lo else decI lo++[45]++decI hi
def trW(x:Tr):List (List UInt8):=if x.kind==1 then [[115,116,97,116,105,99],fmtA x.ins,fmtA x.outs]else if x.kind==2 then [[112,111,111,108],x.list,fmtA x.lo,fmtA x.hi]
 else [[102,111,114,119,97,114,100],protW x.proto,fmtA x.outs,decI x.oport,fmtA x.ins,decI x.iport]
theorem zJw{m:Nat}:∀{g n:Nat},g≤33→zBh m g=some n→n≤32∧maskN (n:Int)=m:=by
 intro g;induction g with
 |zero=>intro n _ h;cases h
 |succ k ih=>
  intro n hg h;rw[zBh]at h;split at h
  ·rename_i h1;cases h;exact⟨by omega,h1⟩
  ·exact ih (by omega) h
theorem ne_of{n:Int}(h:(!(n==0))=true):n≠0:=by simpa using h
theorem m1_ne{n:Int}(h:(!(n == -1))=true):n ≠ -1:=by simpa using h
theorem nm_of{x:List UInt8}(hx:x=[]∨nameB x=true)(h:(!x.isEmpty)=true):nameB x=true:=by
 rcases hx with rfl|hx
 ·cases h
 ·exact hx
theorem zAp{n lo hi:Int}(h:zAb n lo hi=true):lo≤n∧n≤hi:=by simpa [zAb] using h
theorem ifc_ok{x:If}(h:zCs x=true):(0≤x.len∧x.len≤32)∧(0≤x.vlan∧x.vlan≤4094)∧(0≤x.side∧x.side≤2)∧(x.len=0→x.addr=0)∧(x.len≠0→x.addr≠0)∧(x.ls=true→(0≤x.area∧x.area≤255)∧1≤x.cost∧x.cost≤65535)∧(x.ls=false→x.area=0∧x.cost=0):=by
 simp only[zCs,Bool.and_eq_true]at h;obtain⟨⟨⟨⟨⟨h1,h2⟩,h3⟩,h4⟩,h5⟩,h6⟩:=h;refine⟨zAp h1,zAp h2,zAp h3,fun e=>?_,fun e e2=>?_,fun e=>?_,fun e=>?_⟩
 ·by_cases ha:x.addr=0
  ·exact ha
  ·simp[e,ha]at h4
 ·simp[e,e2]at h5
 ·rw[e,if_pos rfl]at h6
  rw[Bool.and_eq_true]at h6;exact⟨zAp h6.1,zAp h6.2⟩
 ·rw[e]at h6
  simpa using h6
theorem cl_ok{x:Cl}(h:zCr x=true):(-1≤x.tag∧x.tag≤65535)∧(-1≤x.setM∧x.setM≤16777215)∧(-1≤x.setT∧x.setT≤65535)∧(-1≤x.setP∧x.setP≤1000000)∧0≤x.prep∧x.prep≤8:=by
 simp only[zCr,Bool.and_eq_true]at h;obtain⟨⟨⟨⟨h1,h2⟩,h3⟩,h4⟩,h5⟩:=h;exact⟨zAp h1,zAp h2,zAp h3,zAp h4,zAp h5⟩
theorem ports_ok{lo hi:Int}(h:zEm lo hi=true):0≤lo∧lo≤hi∧hi≤65535:=by simpa [zEm,and_assoc] using h
theorem ru_ok{x:Ru}(h:zCp x=true):(-1≤x.proto∧x.proto≤255)∧x.sa &&& x.sm=0∧x.da &&& x.dm=0∧(0≤x.slo∧x.slo≤x.shi∧x.shi≤65535)∧0≤x.dlo∧x.dlo≤x.dhi∧x.dhi≤65535:=by
 simp only[zCp,Bool.and_eq_true]at h;obtain⟨⟨⟨⟨⟨h1,h2⟩,h3⟩,h4⟩,h5⟩,h6⟩:=h;exact⟨zAp h1,by simpa using h2,by simpa using h3,ports_ok h4,ports_ok h5⟩
theorem pr_ok{x:PRule}(h:zEg x=true):zAv x.pa x.pl=true∧x.pl≤x.min∧x.min≤x.max∧x.max≤32:=by
 simp only[zEg,Bool.and_eq_true,Bool.not_eq_true', decide_eq_false_iff_not,Int.not_lt]at h;exact⟨h.1.1.1,h.1.1.2,h.1.2,h.2⟩
theorem idx_hit{α:Type}{p:α→Bool}:∀{l:List α} {i:Nat},¬idxF p l i<0→∃x∈l,p x=true
 |[],_,h=>by unfold idxF at h;exact absurd (by decide) h
 |y :: r,i,h=>by
  unfold idxF at h;cases hp:p y with
  |true=>exact⟨y,List.mem_cons_self,hp⟩
  |false=>
   rw[hp]at h;obtain⟨x,hx,h2⟩:=idx_hit h;exact⟨x,List.mem_cons_of_mem _ hx,h2⟩
theorem name_in{α:Type}{name:α→List UInt8}{l:List α}(hv:∀x∈l,nameB (name x)=true){n:List UInt8}(h:¬idxF (fun y=>name y==n) l 0<0):nameB n=true:=by
 obtain⟨x,hx,h2⟩:=idx_hit h;have:=hv x hx
 rwa [eq_of_beq h2]at this
theorem zKh{α:Type}{name:α→List UInt8}{l:List α}(hv:∀x∈l,nameB (name x)=true){n:List UInt8}(h:zAu name l n=false):n=[]∨nameB n=true:=by
 cases n with
 |nil=>exact .inl rfl
 |cons a b=>
  right
  refine name_in hv ?_;simpa [zAu] using h
theorem two_has{α:Type}{name:α→List UInt8}{l:List α}(hv:∀x∈l,nameB (name x)=true){m n:List UInt8}(h:(if zAu name l m||zAu name l n then(5:Int)else 0)=0):(m=[]∨nameB m=true)∧(n=[]∨nameB n=true):=by
 cases h1:zAu name l m with
 |true=>rw[h1]at h;cases h
 |false=>cases h2:zAu name l n with
  |true=>rw[h1,h2]at h;cases h
  |false=>exact⟨zKh hv h1,zKh hv h2⟩
theorem natR_ok{acls:List AList}{x:Tr}(h:natE acls x=0)(hv:∀x∈acls,nameB x.name=true):zBi x=true∧(x.kind=2→nameB x.list=true):=by
 unfold natE at h;by_cases h1:zBi x=true
 ·refine⟨h1,fun hk=>?_⟩
  rw[if_pos h1]at h;refine name_in hv fun h2=>?_
  rw[if_pos (by rw[hk,decide_eq_true h2];rfl)]at h;cases h
 ·rw[if_neg h1]at h;cases h
theorem redA_ok{maps:List RMap}{into least most types:Int}{x:Rd}(h:redF maps into least most types x=0)(hv:∀x∈maps,nameB x.name=true) :
  (1≤x.frm∧x.frm≤5)∧(least≤x.metric∧x.metric≤most)∧(0≤x.tag∧x.tag≤65535)∧(min 1 types≤x.typ∧x.typ≤types)∧(x.map=[]∨nameB x.map=true):=by
 unfold redF at h;split at h
 ·rename_i h1
  simp only[Bool.and_eq_true]at h1;obtain⟨⟨⟨⟨h1,_⟩,h2⟩,h3⟩,h4⟩:=h1;refine⟨zAp h1,zAp h2,zAp h3,zAp h4,?_⟩;cases hl:zAu (·.name) maps x.map with
  |true=>rw[hl]at h;cases h
  |false=>exact zKh hv hl
 ·cases h
theorem zCu{c:Prop}[Decidable c]{a:Int}(h:(if c then a else 1)=0):c∧a=0:=by
 split at h
 ·rename_i hc;exact⟨hc,h⟩
 ·cases h
theorem zFw{α:Type}{l:List α}(h:decide ((0:Int)<l.length)=false):l=[]:=by
 cases l with
 |nil=>rfl
 |cons a b=>simp at h
theorem zEw{c:Bool}(h:(if c then(0:Int)else 1)=0):c=true:=by
 cases c with
 |true=>rfl
 |false=>cases h
theorem joinW_sh:∀ws:List (List UInt8),(∀x∈ws,x.length≤40)→(joinW ws).length≤41*ws.length
 |[],_=>Nat.zero_le _
 |x :: r,h=>by
  have h1:∀r:List (List UInt8),(∀x∈r,x.length≤40)→(r.flatMap fun y=>32 :: y).length≤41*r.length:=by
   intro r;induction r with
   |nil=>intro _;simp
   |cons y t ih=>
    intro h;have h2:=ih fun z hz=>h z (List.mem_cons_of_mem _ hz)
    have h3:=h y List.mem_cons_self;simp only[List.flatMap_cons,List.length_append,List.length_cons]at h2⊢;omega
  have h2:=h1 r fun z hz=>h z (List.mem_cons_of_mem _ hz)
  have h3:=h x List.mem_cons_self;simp only[joinW,List.length_append,List.length_cons];omega
theorem sL{x:List UInt8}(h:Nat.ble x.length 40=true):x.length≤40:=Nat.le_of_ble_eq_true h
theorem zEf{x:List UInt8}(h:nameB x=true):x.length≤40:=by
 cases x with
 |nil=>cases h
 |cons c r=>
  simp only[nameB,Bool.and_eq_true,decide_eq_true_eq]at h;simp only[List.length_cons];omega
theorem zDc{n:Int}(h:n≤16777215):(decI n).length≤40:=Nat.le_trans (zGy 8 _ (by omega)) (by decide)
theorem zJs(a:Nat):(fmtA a).length≤40:=Nat.le_trans (zEu a) (by decide)
theorem sh_host(a:Nat)(n:Int):(hostF a n).length≤19:=by
 unfold hostF;split
 ·have h2:=zEu a
  have h3:(dec n.toNat).length≤2:=zGy 1 _ (by omega);simp only[List.length_append,List.length_cons,List.length_nil];omega
 ·exact Nat.zero_le _
theorem sh_pfx(a:Nat)(n:Int):(pfxF a n).length≤40:=by
 unfold pfxF;split
 ·exact Nat.le_trans (sh_host a n) (by decide)
 ·exact Nat.zero_le _
theorem sh_wild(a m:Nat):(wildW a m).length≤40:=by
 have h1:=zEu a;have h2:=zEu m;unfold wildW;split
 ·split
  ·omega
  ·exact Nat.le_trans (sh_host a _) (by decide)
 ·simp only[List.length_append,List.length_cons,List.length_nil];omega
theorem sh_port{lo hi:Int}(h1:lo≤65535)(h2:hi≤65535):(portW lo hi).length≤40:=by
 have a:∀n:Int,n≤65535→(decI n).length≤5:=fun n h=>zGy 4 _ (by omega)
 have a1:=a lo h1;have a2:=a hi h2;unfold portW;split
 ·omega
 ·simp only[List.length_append,List.length_cons,List.length_nil];omega
theorem sh_prot{n:Int}(h:n≤255):(protW n).length≤40:=by
 unfold protW;split
 ·decide
 split
 ·decide
 ·exact zDc (by omega)
theorem zFn{α:Type}{l:List α}{P:α→Prop}(h:∀k (hk:k<l.length),P l[k]):∀x∈l,P x:=fun x hx=>by
 obtain⟨k,hk,rfl⟩:=List.getElem_of_mem hx;exact h k hk
theorem zDh{α:Type}{most:Nat}{f:α→Int}{c:α→α→Bool}{err:Int}{l:List α}(he:err≠0)(h:pairE most f c err l=0):∀x∈l,f x=0:=zFn fun k hk=>((zFi he h).2 k hk).1
theorem zFl{α β:Type}{name:α→List UInt8}{len:α→Nat}{sub:α→List β}{f:β→Int}{most:Int}{l:List α}(h:lsE name len (fun x=>zAl f (sub x)) most l=0):∀x∈l,∀y∈sub x,f y=0 :=
 zFn fun k hk=>zHg ((ls_ok h).2 k hk).2.2.2.2
structure Shorts (r:Rt):Prop where
 ifs:r.ifs.length≤16
 lists:r.lists.length≤16∧∀x∈r.lists,x.rules.length≤16
 maps:r.maps.length≤16∧∀x∈r.maps,x.clauses.length≤16
 acls:r.acls.length≤16∧∀x∈r.acls,x.rules.length≤16
 nat:r.nat.length≤16
 stat:r.stat.length≤16
 ranges:r.ranges.length≤16
 lsRed:r.lsRed.length≤16
 dvRed:r.dvRed.length≤16
 nb:r.nb.length≤16
 net:r.net.length≤16
 ag:r.ag.length≤16
 cd:r.cd.length≤16
 pvRed:r.pvRed.length≤16
theorem red_len{maps:List RMap}{a b c d:Int}{l:List Rd}(h:redE maps a b c d l=0):l.length≤16:=Nat.le_trans (zFi (by decide) h).1 (by decide)
theorem zGz{r:Rt}(h:zBp r=0):Shorts r:=by
 obtain⟨z1,z2,z3,z4,z5,z6,z7,z8,z9,z10,z11,z12⟩:=zIt h
 have hls:r.ranges.length≤16∧r.lsRed.length≤16:=by
  unfold lnkE at z10;cases ho:r.lsOn with
  |true=>
   rw[ho,if_pos rfl]at z10;obtain⟨a,b⟩:=zBv (zCu z10).2;exact⟨Nat.le_trans (zFi (by decide) a).1 (by decide),red_len b⟩
  |false=>
   rw[ho,if_neg (by decide)]at z10
   have h4:(!(r.lsAdmin==0)||decide ((0:Int)<r.ranges.length)||decide ((0:Int)<r.lsRed.length))=false:=by
    rw[←Bool.not_eq_true];intro e;rw[if_pos e]at z10;cases z10
   simp only[Bool.or_eq_false_iff]at h4;rw[zFw h4.1.2,zFw h4.2];exact⟨by simp,by simp⟩
 have hdv:r.dvRed.length≤16:=by
  unfold dvE at z11;cases ho:r.dvOn with
  |true=>
   rw[ho,if_pos rfl]at z11;exact red_len (zBv (zCu z11).2).2
  |false=>
   rw[ho,if_neg (by decide)]at z11
   have h4:(!(r.dvAdmin==0) || !r.dvIn.isEmpty || !r.dvOut.isEmpty||decide ((0:Int)<r.dvRed.length))=false:=by
    rw[←Bool.not_eq_true];intro e;rw[if_pos e]at z11;cases z11
   simp only[Bool.or_eq_false_iff]at h4;rw[zFw h4.2];simp
 have hpv:r.nb.length≤16∧r.net.length≤16∧r.ag.length≤16∧r.cd.length≤16∧r.pvRed.length≤16:=by
  unfold pvE at z12;cases ho:r.pvOn with
  |true=>
   rw[ho,if_pos rfl]at z12;obtain⟨g1,h⟩:=zBv (zCu z12).2;obtain⟨g2,g3⟩:=zBv h;unfold origE at g2;obtain⟨g4,g2⟩:=zBv g2;obtain⟨g5,g6⟩:=zBv g2;exact⟨Nat.le_trans (zFi (by decide) g1).1 (by decide),Nat.le_trans (zFi (by decide) g4).1 (by decide),Nat.le_trans (zFi (by decide) g5).1 (by decide),Nat.le_trans (zFi (by decide) g6).1 (by decide),red_len g3⟩
  |false=>
   rw[ho,if_neg (by decide)]at z12;split at z12
   ·cases z12
   ·rename_i h8
    rw[Bool.not_eq_true]at h8;simp only[Bool.or_eq_false_iff]at h8;obtain⟨_,_,y3,y4,y5,y6,y7⟩:=h8;rw[zFw y3,zFw y4,zFw y5,zFw y6,zFw y7];simp
 obtain⟨a1,a2⟩:=ls_ok z4;obtain⟨b1,b2⟩:=ls_ok z5;obtain⟨c1,c2⟩:=ls_ok z6;refine⟨by have:=(ifs_ok z3).1;omega,⟨by omega,zFn fun k hk=>by have:=(a2 k hk).2.2.2.1;omega⟩,⟨by omega,zFn fun k hk=>by have:=(b2 k hk).2.2.2.1;omega⟩,⟨by omega,zFn fun k hk=>by have:=(c2 k hk).2.2.2.1;omega⟩,?_,(zFi (by decide) z9).1,hls.1,hls.2,hdv,hpv.1,hpv.2.1,hpv.2.2.1,hpv.2.2.2.1,hpv.2.2.2.2⟩;unfold natsE at z7;split at z7
 ·cases z7
 ·omega
abbrev Ln:=Bool × List (List UInt8)
def lnW(l:Ln):List UInt8:=(if l.1 then [32]else [])++(joinW l.2++[10])
def textA(l:List Ln):List UInt8:=l.flatMap lnW
theorem zAk(a b:List Ln):textA (a++b)=textA a++textA b:=List.flatMap_append
theorem zDn(a:Ln)(b:List Ln):textA (a :: b)=lnW a++textA b:=rfl
def optL{α:Type}(c:Bool)(l:List α):List α:=if c then l else []
def nthL{α:Type}(f:Nat→α→List Ln):Nat→List α→List Ln
 |_,[]=>[]
 |k,x :: r=>f k x++nthL f (k+1) r
theorem nthL_app{α:Type}(f:Nat→α→List Ln)(a b:List α):∀k,nthL f k (a++b)=nthL f k a++nthL f (k+a.length) b:=by
 induction a with
 |nil=>intro k;rfl
 |cons x r ih=>
  intro k;rw[List.cons_append,nthL,nthL,ih,List.append_assoc,List.length_cons,Nat.add_assoc,Nat.add_comm 1]
theorem zAy{α:Type}(f:Nat→α→List Ln)(l:List α){k:Nat}(hk:k<l.length):nthL f 0 (l.take (k+1))=nthL f 0 (l.take k)++f k l[k]:=by
 rw[List.take_succ_eq_append_getElem hk,nthL_app,List.length_take,Nat.min_eq_left (by omega),Nat.zero_add];simp only[nthL,List.append_nil]
theorem zBa{α:Type}(f:Nat→α→List Ln)(l:List α){k:Nat}(hk:k<l.length):(textA (nthL f 0 (l.take k))).length+(textA (f k l[k])).length≤(textA (nthL f 0 l)).length:=by
 have h:=zAy f l hk;have h2:=nthL_app f (l.take (k+1)) (l.drop (k+1)) 0;rw[List.take_append_drop]at h2;rw[h2,zAk,h,zAk];simp only[List.length_append];omega
def yesW(b:Bool):List UInt8:=if b then [112,101,114,109,105,116]else [100,101,110,121]
def nthW(k:Nat):List UInt8:=decI (10*(k+1))
def headA(r:Rt):List Ln:=(false,[[104,111,115,116,110,97,109,101],r.name]) :: optL (!(r.asn==0)) [(false,[[97,115],decI r.asn])]
def sideA(n:Int):List Ln:=if n==1 then [(true,[[115,105,100,101],[105,110,115,105,100,101]])]else optL (n==2) [(true,[[115,105,100,101],[111,117,116,115,105,100,101]])]
def ifA(k:Nat)(x:If):List Ln:=match k with
 |0=>[(false,[[105,110,116,101,114,102,97,99,101],x.name])]
 |1=>optL (!(x.len==0)) [(true,[[97,100,100,114,101,115,115],hostF x.addr x.len])]
 |2=>optL (!(x.vlan==0)) [(true,[[118,108,97,110],decI x.vlan])]
 |3=>optL (!x.down) [(true,[[110,111],[115,104,117,116,100,111,119,110]])]
 |4=>optL x.ls [(true,[[108,115],[97,114,101,97],decI x.area,[99,111,115,116],decI x.cost])]
 |5=>optL x.dv [(true,[[100,118]])]
 |6=>optL (!x.inn.isEmpty) [(true,[[105,110],x.inn])]
 |7=>optL (!x.out.isEmpty) [(true,[[111,117,116],x.out])]
 |_=>sideA x.side
def ifAs(x:If):List Ln:=ifA 0 x++(ifA 1 x++(ifA 2 x++(ifA 3 x++(ifA 4 x++(ifA 5 x++(ifA 6 x++(ifA 7 x++ifA 8 x)))))))
def ifsA(r:Rt):List Ln:=r.ifs.flatMap ifAs
def prA(n:List UInt8)(k:Nat)(x:PRule):Ln:=(false,[[112,114,101,102,105,120,45,108,105,115,116],n,nthW k,yesW x.permit,pfxF x.pa x.pl]++(optL (!(x.min==x.pl)) [[103,101],decI x.min]++optL (!(x.max==if x.min==x.pl then x.pl else 32)) [[108,101],decI x.max]))
def plA(l:PList):List Ln:=nthL (fun k x=>[prA l.name k x]) 0 l.rules
def clA(k:Nat)(c:Cl):List Ln:=match k with
 |0=>optL (!c.list.isEmpty) [(true,[[109,97,116,99,104],[108,105,115,116],c.list])]
 |1=>optL (!(c.tag == -1)) [(true,[[109,97,116,99,104],[116,97,103],decI c.tag])]
 |2=>optL (!(c.setM == -1)) [(true,[[115,101,116],[109,101,116,114,105,99],decI c.setM])]
 |3=>optL (!(c.setT == -1)) [(true,[[115,101,116],[116,97,103],decI c.setT])]
 |4=>optL (!(c.setP == -1)) [(true,[[115,101,116],[112,114,101,102,101,114,101,110,99,101],decI c.setP])]
 |_=>optL (!(c.prep==0)) [(true,[[112,114,101,112,101,110,100],decI c.prep])]
def clAs(c:Cl):List Ln:=clA 0 c++(clA 1 c++(clA 2 c++(clA 3 c++(clA 4 c++clA 5 c))))
def mpA(m:RMap):List Ln:=nthL (fun k c=>(false,[[114,111,117,116,101,45,109,97,112],m.name,nthW k,yesW c.permit]) :: clAs c) 0 m.clauses
def protA(n:Int):List UInt8:=if n == -1 then [105,112]else protW n
def wildT(a m:Nat):List UInt8:=if m==4294967295 then [97,110,121]else wildW a m
def zBu(w:List UInt8)(lo hi:Int):List (List UInt8):=optL (!(lo==0&&hi==65535)) [w,portW lo hi]
def ruA(n:List UInt8)(k:Nat)(x:Ru):Ln:=(false,[[97,99,99,101,115,115,45,108,105,115,116],n,nthW k,yesW x.permit,protA x.proto,wildT x.sa x.sm,wildT x.da x.dm]++(zBu [102,114,111,109] x.slo x.shi++zBu [116,111] x.dlo x.dhi))
def acA(l:AList):List Ln:=nthL (fun k x=>[ruA l.name k x]) 0 l.rules
def zEa(r:Rt):List Ln:=r.lists.flatMap plA++(r.maps.flatMap mpA++r.acls.flatMap acA)
def trA(x:Tr):Ln:=(false,[110,97,116] :: trW x)
def goalA(x:Sr):List (List UInt8):=if !(x.next==0)then [[118,105,97],fmtA x.next]else if !x.iface.isEmpty then [[105,110,116,101,114,102,97,99,101],x.iface]else [[100,105,115,99,97,114,100]]
def srA(x:Sr):Ln:=(false,[[114,111,117,116,101],pfxF x.pa x.pl]++(goalA x++(optL (!(x.admin==1)) [[97,100,109,105,110],decI x.admin]++optL (!(x.tag==0)) [[116,97,103],decI x.tag])))
def fwdA(r:Rt):List Ln:=r.nat.map trA++r.stat.map srA
def srcT(n:Int):List UInt8:=if n=1 then [99,111,110,110,101,99,116,101,100]else if n=2 then [115,116,97,116,105,99]else if n=3 then [108,115]else if n=4 then [100,118]else [112,118]
def rdA(x:Rd):Ln:=(true,[[114,101,100,105,115,116,114,105,98,117,116,101],srcT x.frm,[109,101,116,114,105,99],decI x.metric]++(optL (!(x.tag==0)) [[116,97,103],decI x.tag]++(optL (!x.map.isEmpty) [[109,97,112],x.map]++optL (!(x.typ==0)) [[116,121,112,101],decI x.typ])))
def lsA(r:Rt):List Ln:=optL r.lsOn ((false,[[114,111,117,116,101,114],[108,115]]) :: (true,[[100,105,115,116,97,110,99,101],decI r.lsAdmin]) :: (r.ranges.map (fun a=>(true,[[114,97,110,103,101],decI a.area,pfxF a.pa a.pl]))++r.lsRed.map rdA))
def dvA(r:Rt):List Ln:=optL r.dvOn ((false,[[114,111,117,116,101,114],[100,118]]) :: (true,[[100,105,115,116,97,110,99,101],decI r.dvAdmin]) :: (optL (!r.dvIn.isEmpty) [(true,[[102,105,108,116,101,114],[105,110],r.dvIn])]++(optL (!r.dvOut.isEmpty) [(true,[[102,105,108,116,101,114],[111,117,116],r.dvOut])]++r.dvRed.map rdA)))
def nbA(x:Nb):Ln:=(true,[[110,101,105,103,104,98,111,114],fmtA x.addr,[97,115],decI x.asn]++(optL (!x.inn.isEmpty) [[105,110],x.inn]++optL (!x.out.isEmpty) [[111,117,116],x.out]))
def agA(x:Ag):Ln:=(true,[[97,103,103,114,101,103,97,116,101],pfxF x.pa x.pl]++optL x.only [[111,110,108,121]])
def cdA(x:Cd):Ln:=(true,[[111,114,105,103,105,110,97,116,101],pfxF x.pa x.pl,if x.absent then [117,110,108,101,115,115]else [105,102],pfxF x.ia x.il])
def pvA(r:Rt):List Ln:=optL r.pvOn ((false,[[114,111,117,116,101,114],[112,118]]) :: (true,[[100,105,115,116,97,110,99,101],[101,120,116,101,114,110,97,108],decI r.ext]) :: (true,[[100,105,115,116,97,110,99,101],[105,110,116,101,114,110,97,108],decI r.int]) :: (r.nb.map nbA++(r.net.map (fun p=>(true,[[110,101,116,119,111,114,107],pfxF p.pa p.pl]))++(r.ag.map agA++(r.cd.map cdA++r.pvRed.map rdA)))))
def fmtL(r:Rt):List Ln:=headA r++(ifsA r++(zEa r++(fwdA r++(lsA r++(dvA r++pvA r)))))
def zHu(chk:Rt→Int)(r:Rt):List UInt8 × Int:=if chk r=0 then(if 65536<(textA (fmtL r)).length then([],7)else(textA (fmtL r),0))else([],chk r)
theorem add_run{P:Program}{o:Oper}{a:Act}{w:World}{T U:TypeId}{x y:Operand}(ho:o.op=.binOp .add T x y U){l m:List UInt8}(hx:a.eval x=.string (str l))(hy:a.eval y=.string (str m))(hl:l.length+m.length≤9223372036854775807) :
  (execOp a.eval o).run P w=.ok (.value (.string (str (l++m)))) w:=by
 have e:=run_cat hl;unfold cat at e;unfold execOp;rw[ho];simp only[hx,hy];simp[go_sem,e]
theorem zAh{P:Program}{ops:Array Oper}{rest:List Oper}{o:Oper}{a:Act}{w:World}{Q:Exit→Act→World→Prop}(hgd:o.guard=none){T U:TypeId}{x y:Operand}(ho:o.op=.binOp .add T x y U){l m:List UInt8}
  (hx:a.eval x=.string (str l)) (hy:a.eval y=.string (str m)) (hl:l.length+m.length≤9223372036854775807) (h:wpList P ops Q rest (a.put o.dst (.string (str (l++m)))) w):wpList P ops Q (o :: rest) a w :=
 Go.Great.wpList_readTo hgd _ rfl _ (add_run ho hx hy hl) h
theorem zDy{P:Program}{ops:Array Oper}{Q:Exit→Act→World→Prop}{S:World→Prop}{o:Oper}{r:List Oper}{a:Act}{T U:TypeId}{x y:Operand}{l m:List UInt8}(hw:Region.wanted o (yielded ops a.tmps)=true)(ho:o.op=.binOp .add T x y U)
  (hx:a.eval x=.string (str l)) (hy:a.eval y=.string (str m)) (hl:l.length+m.length≤9223372036854775807) (h:Seq P ops Q S r (a.put o.dst (.string (str (l++m))))):Seq P ops Q S (o :: r) a:=zBd hw (fun _ _=>add_run ho hx hy hl) h
theorem not_u32{m:Nat}(h:m<4294967296):bits .xor .u32 IntKind.u32.max (m:Int)=((4294967295 - m:Nat):Int):=by
 have h1:=u32_xor_nat 4294967295 m (by omega) h;rw[show((4294967295:Nat):Int)=IntKind.u32.max by decide]at h1;rw[h1,xor_all (by simpa using h)]
theorem catS(a b:List UInt8):str a++str b=str (a++b):=zGr a b
def WB(a m:Nat)(w0 w:World):Prop:=HasC 99 w0.heap.size #[.int .u32 (a:Int),.int .u32 (m:Int)] w∧Below w0.heap.size w0 w
theorem WB.keep{a m:Nat}{w0 w w' : World}(h:WB a m w0 w)(hb:Below w.heap.size w w'):WB a m w0 w' := ⟨h.1.keep hb,h.2.trans (hb.mono (Nat.le_of_lt (zCv h.1)))⟩
def PB(lo hi:Int)(w0 w:World):Prop:=HasC 101 w0.heap.size #[.int .i64 lo,.int .i64 hi] w∧Below w0.heap.size w0 w
theorem PB.keep{lo hi:Int}{w0 w w' : World}(h:PB lo hi w0 w)(hb:Below w.heap.size w w'):PB lo hi w0 w' := ⟨h.1.keep hb,h.2.trans (hb.mono (Nat.le_of_lt (zCv h.1)))⟩
theorem zKl{n:Int}(h:n≤16777215):(str (decI n)).size≤9:=by rw[zBx];exact zGy 8 _ (by omega)
theorem rng_neq(a b c d:Int)(w:World):(binOp .neq 101 (.agg #[.int .i64 a,.int .i64 b]) (.agg #[.int .i64 c,.int .i64 d])).run Tryz.prog w=.ok (.bool (!(a==c&&b==d))) w:=by
 have hp:=Tryz.rngStood;by_cases h1:a=c
 ·subst h1
  by_cases h2:b=d
  ·subst h2
   simp[go_sem,hp]
  ·have h3:(b==d)=false:=by simp[h2]
   simp[go_sem,hp,h3]
 ·have h2:(a==c)=false:=by simp[h1]
  simp[go_sem,hp,h2]
structure YA (L:List (TypeId × Nat × Array Value)) (w0 w:World):Prop where
 x:∀e∈L,HasC e.1 e.2.1 e.2.2 w
 b:Below w0.heap.size w0 w
section
variable {L : List (TypeId × Nat × Array Value)} {T : TypeId} {gx : Nat} {cs : Array Value} {w0 w w' : World}
theorem YA.start(w:World):YA [] w w:=⟨fun _ he=>(by cases he),Below.refl _ _⟩
theorem YA.a(h:YA ((T,gx,cs) :: L) w0 w):HasC T gx cs w:=h.x _ List.mem_cons_self
theorem YA.pop(h:YA ((T,gx,cs) :: L) w0 w):YA L w0 w:=⟨fun e he=>h.x e (List.mem_cons_of_mem _ he),h.b⟩
theorem YA.below(h:YA L w0 w)(hb:Below w.heap.size w w'):YA L w0 w' := ⟨fun e he=>(h.x e he).keep hb,h.b.trans (hb.mono h.b.size)⟩
theorem YA.drew(h:YA L w0 w):YA L w0 w.drew:=h.below (zAs _)
theorem YA.new(h:YA L w0 w)(hx:HasC T w.heap.size cs w')(hb:Below w.heap.size w w'):YA ((T,w.heap.size,cs) :: L) w0 w' := by
 have h1:=h.below hb;refine⟨fun e he=>?_,h1.b⟩;rcases List.mem_cons.1 he with rfl|he
 ·exact hx
 ·exact h1.x e he
end
def YP(t:List UInt8)(w:World)(e:Ending)(w' : World):Prop:=e=.returned (.string (str t))∧Below w.heap.size w w'
end Go.Proofs.YthcnojmldldpeaaGreatDoor
