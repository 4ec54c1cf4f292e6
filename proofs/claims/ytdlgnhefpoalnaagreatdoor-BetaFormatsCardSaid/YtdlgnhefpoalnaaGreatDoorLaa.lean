/- The walks of the forms of a policy's term and of a redistribution. Conditions: as in BrC. -/
import Derived.Test.YtdlgnhefpoalnaaGreatDoorLz
import Derived.Test.YtdlgnhefpoalnaaGreatDoorLy
set_option maxRecDepth 8000
set_option maxHeartbeats 4000000
namespace Go.Proofs.YtdlgnhefpoalnaaGreatDoor
open Lib (hid)
open Go.RowKit
def zHj(chk:Rt→Int)(lines:Int)(t:List Tk):Int × Int × Rt:=match seqN lines (2*t.length+2) false t []with
 |.error l=>(l,2,rtN)
 |.ok a=>match readN .top [] a.1 rtN with
  |(_,some (l,e))=>(l,e,rtN)
  |(r,none)=>if chk r=0 then(lines,0,r)else(lines,chk r,rtN)
def zKe(chk:Rt→Int)(l:List UInt8):Int × Int × Rt :=
 if zBr l=0 then zHj chk (zCs l).length (zDq l)else(0,zBr l,rtN)
def TkN(x:Tk):Prop:=0≤x.1∧x.2.length≤1000000000
mutual
def NdOk:Nd→Prop
 |.mk l w _ k=>0≤l∧(∀f∈w,f.length≤1000000000)∧NdsOk k
def NdsOk:List Nd→Prop
 |[]=>True
 |n :: ns=>NdOk n∧NdsOk ns
end
theorem NdsOk.append:∀{a b:List Nd},NdsOk a→NdsOk b→NdsOk (a++b)
 |[],_,_,h=>h
 |x :: r,b,h,h' => by
  rw[NdsOk]at h;rw[List.cons_append,NdsOk];exact⟨h.1,NdsOk.append h.2 h'⟩
theorem zHh:∀a b:List Nd,sizeL (a++b)=sizeL a+sizeL b
 |[],b=>by rw[List.nil_append,sizeL,Nat.zero_add]
 |x :: r,b=>by rw[List.cons_append,sizeL,sizeL,zHh r b,Nat.add_assoc]
def SeqOk(t:List Tk)(ns:List Nd):Except Int (List Nd × List Tk)→Prop
 |.error l=>0≤l
 |.ok a=>NdsOk a.1∧(∀x∈a.2,TkN x)∧sizeL a.1+a.2.length≤sizeL ns+t.length
def NodOk(t:List Tk):Except Int (Nd × List Tk)→Prop
 |.error l=>0≤l
 |.ok a=>NdOk a.1∧(∀x∈a.2,TkN x)∧a.1.size+a.2.length≤t.length
theorem seq_ok{lines:Int}(hl:0≤lines):∀n,(∀inner t ns,(∀x∈t,TkN x)→NdsOk ns→SeqOk t ns (seqN lines n inner t ns))∧(∀at_ t ws,0≤at_→(∀x∈t,TkN x)→(∀f∈ws,f.length≤1000000000)→NodOk t (nodeN lines n at_ t ws)):=by
 intro n;induction n with
 |zero=>exact⟨fun _ _ _ _ _=>by rw[seqN];exact hl,fun _ _ _ _ _ _=>by rw[nodeN];exact hl⟩
 |succ n ih=>
  refine⟨fun inner t ns ht hn=>?_,fun at_ t ws ha ht hw=>?_⟩
  ·cases t with
   |nil=>
    rw[seqN];split
    ·exact hl
    ·exact⟨hn,fun _ h=>(by cases h),yI _⟩
   |cons y t=>
    have hy:=ht y List.mem_cons_self;rw[seqN];split
    ·exact⟨hn,fun x hx=>ht x (List.mem_cons_of_mem _ hx),by simp⟩
    ·have h1:=ih.2 y.1 (y :: t) [] hy.1 ht (fun _ h=>by cases h)
     revert h1
     cases nodeN lines n y.1 (y :: t) []with
     |error l=>exact fun h=>h
     |ok a=>
      rintro⟨h1,h2,h3⟩;have h4:=ih.1 inner a.2 (ns++[a.1]) h2 (hn.append (by rw[NdsOk,NdsOk];exact⟨h1,trivial⟩))
      revert h4
      simp only;cases seqN lines n inner a.2 (ns++[a.1])with
      |error l=>exact fun h=>h
      |ok c=>
       rintro⟨q1,q2,q3⟩;rw[zHh,sizeL,sizeL]at q3;exact⟨q1,q2,by omega⟩
  ·cases t with
   |nil=>rw[nodeN];exact hl
   |cons y t=>
    have hy:=ht y List.mem_cons_self;have ht' :∀x∈t,TkN x:=fun x hx=>ht x (List.mem_cons_of_mem _ hx)
    rw[nodeN];split
    ·have h1:=ih.2 at_ t (ws++[y.2]) ha ht' (fun f hf=>(List.mem_append.1 hf).elim (hw f) (fun hf=>by obtain rfl:=List.mem_singleton.1 hf;exact hy.2))
     revert h1
     cases nodeN lines n at_ t (ws++[y.2])with
     |error l=>exact fun h=>h
     |ok a=>rintro⟨q1,q2,q3⟩;exact⟨q1,q2,by simp only[yG];omega⟩
    ·split
     ·exact hy.1
     ·split
      ·exact⟨by rw[NdOk,NdsOk];exact⟨ha,hw,trivial⟩,ht', by simp only[Nd.size,sizeL,yG];omega⟩
      ·have h1:=ih.1 true t [] ht' (by rw[NdsOk];trivial)
       revert h1
       cases seqN lines n true t []with
       |error l=>exact fun h=>h
       |ok a=>
        rintro⟨q1,q2,q3⟩;refine⟨by rw[NdOk];exact⟨ha,hw,q1⟩,q2,?_⟩;simp only[Nd.size,sizeL,yG]at *;omega
mutual
theorem readN_pos(f:Fm):∀(ns:List Nd) (keys:List (List UInt8)) (r:Rt),NdsOk ns→∀e,(readN f keys ns r).2=some e→0≤e.1
 |[],_,_,_,e,h=>by simp[readN]at h
 |n :: ns,keys,r,hn,e,h=>by
  rw[NdsOk]at hn;have h1:=readOne_pos f n keys r hn.1;simp only[readN]at h
  revert h1 h
  match zEz f keys n r with
  |(r', k', none)=>intro h _;exact readN_pos f ns k' r' hn.2 e h
  |(r', k', some e')=>intro h h1;simp only[Option.some.injEq]at h;subst h;exact h1 _ rfl
theorem readOne_pos(f:Fm):∀(n:Nd) (keys:List (List UInt8)) (r:Rt),NdOk n→∀e,(zEz f keys n r).2.2=some e→0≤e.1
 |.mk line words blk kids,keys,r,hn,e,h=>by
  rw[NdOk]at hn;simp only[zEz]at h
  revert h
  match fmS f blk r ⟨words,false⟩with
  |(key,inner,r', p)=>
   simp only;split
   ·intro h;simp only[Option.some.injEq]at h;subst h;exact hn.1
   ·split
    ·intro h;simp only[Option.some.injEq]at h;subst h;exact hn.1
    ·cases inner with
     |none=>intro h;simp at h
     |some g=>intro h;exact readN_pos g kids [] r' hn.2.2 e h
end
theorem tokGo_short:∀(l cur:List UInt8),∀x∈tokGo cur l,x.length≤cur.length+l.length:=by
 intro l;induction l with
 |nil=>
  intro cur x h;unfold tokGo flush at h;split at h
  ·cases h
  ·obtain rfl:=List.mem_singleton.1 h;simp
 |cons b r ih=>
  intro cur x h
  have hf:∀x∈flush cur,x.length≤cur.length:=fun x hx=>by
   unfold flush at hx;split at hx
   ·cases hx
   ·obtain rfl:=List.mem_singleton.1 hx;exact yI _
  unfold tokGo at h;simp only[yG];split at h
  ·have:=hf x h;omega
  ·split at h
   ·rcases List.mem_append.1 h with h|h
    ·have:=hf x h;omega
    ·have:=ih [] x h;simp only[yH]at this;omega
   ·split at h
    ·rcases List.mem_append.1 h with h|h
     ·have:=hf x h;omega
     ·rcases List.mem_cons.1 h with rfl|h
      ·simp only[yG,yH];omega
      ·have:=ih [] x h;simp only[yH]at this;omega
    ·have:=ih (cur++[b]) x h;simp only[yA,yG,yH]at this;omega
theorem toksFrom_ok:∀(ls:List (List UInt8)) (n:Int),0≤n→(∀z∈ls,z.length≤1000000000)→∀x∈zEo n ls,TkN x
 |[],_,_,_,x,h=>by cases h
 |l :: r,n,hn,hl,x,h=>by
  rw[zEo]at h;rcases List.mem_append.1 h with h|h
  ·obtain⟨t,ht,rfl⟩:=List.mem_map.1 h
   have h1:=tokGo_short l [] t ht;have h2:=hl l List.mem_cons_self;simp only[yH]at h1;exact⟨hn,by dsimp only;omega⟩
  ·exact toksFrom_ok r (n+1) (by omega) (fun z hz=>hl z (List.mem_cons_of_mem _ hz)) x h
theorem toks_ok{l:List UInt8}(h:zBr l=0):(∀x∈zDq l,TkN x)∧(zDq l).length≤65536:=by
 have hl:l.length≤65536:=by
  unfold zBr at h;split at h
  ·cases h
  ·omega
 refine⟨toksFrom_ok _ 1 (by decide) (fun z hz=>?_),yJ (toks_len l) hl⟩;have:=lines_each l z hz;omega
theorem parseB_pos(chk:Rt→Int)(l:List UInt8):0≤(zKe chk l).1:=by
 unfold zKe;split
 ·rename_i h
  obtain⟨h1,h2⟩:=toks_ok h;have hn:(0:Int)≤((zCs l).length:Int):=by omega
  have h3:=(seq_ok hn (2*(zDq l).length+2)).1 false (zDq l) [] h1 (by rw[NdsOk];trivial);unfold zHj
  revert h3
  cases seqN ((zCs l).length:Int) (2*(zDq l).length+2) false (zDq l) []with
  |error e=>exact fun h=>h
  |ok a=>
   rintro⟨h4,-,-⟩;simp only;have h5:=readN_pos .top a.1 [] rtN h4
   revert h5
   match readN .top [] a.1 rtN with
   |(r,none)=>intro _;simp only;split<;>exact hn
   |(r,some e)=>intro h5;exact h5 e rfl
 ·exact Int.le_refl 0
def saneT:List UInt8:=[115,121,115,116,101,109,32,123,32,104,111,115,116,45,110,97,109,101,32,114,49,59,32,125,10,105,110,116,101,114,102,97,99,101,115,32,123,10,32,32,101,48,32,123,32,97,100,100,114,101,115,115,32,49,48,46,48,46,48,46,49,47,50,52,59,32,125,32,35,32,117,112,10,125,10,115,116,97,116,105,99,32,123,32,114,111,117,116,101,32,48,46,48,46,48,46,48,47,48,32,123,32,100,105,115,99,97,114,100,59,32,125,32,125,10]
def saneU:List UInt8:=[115,121,115,116,101,109,32,123,10,32,32,104,111,115,116,45,110,97,109,101,32,114,49,59,10,32,32,104,111,115,116,45,110,97,109,101,32,114,50,59,10,125,10]
def saneR:Rt:={ rtN with name:=[114,49],ifs:=[⟨[101,48],167772161,24,0,false,false,0,0,false,[],[],0⟩],stat:=[⟨0,0,0,[],true,5,0⟩] }
theorem saneT_run(chk:Rt→Int)(h:chk saneR=0):zKe chk saneT=(5,0,saneR):=by
 have e1:zBr saneT=0:=by decide
 have e2:seqN ((zCs saneT).length:Int) (2*(zDq saneT).length+2) false (zDq saneT) []=.ok ((seqN 5 100 false (zDq saneT) []).toOption.getD ([],[])):=by kernel_rfl
 have e3:readN .top [] ((seqN 5 100 false (zDq saneT) []).toOption.getD ([],[])).1 rtN=(saneR,none):=by kernel_rfl
 have e4:((zCs saneT).length:Int)=5:=by decide
 rw[zKe,if_pos e1,zHj,e2];simp only[e3];rw[if_pos h,e4]
theorem saneU_run(chk:Rt→Int):zKe chk saneU=(3,4,rtN):=by
 have e1:zBr saneU=0:=by decide
 have e2:seqN ((zCs saneU).length:Int) (2*(zDq saneU).length+2) false (zDq saneU) []=.ok ((seqN 4 100 false (zDq saneU) []).toOption.getD ([],[])):=by kernel_rfl
 have e3:(readN .top [] ((seqN 4 100 false (zDq saneU) []).toOption.getD ([],[])).1 rtN).2=some (3,4):=by kernel_rfl
 rw[zKe,if_pos e1,zHj,e2]
 revert e3
 simp only
 match readN .top [] ((seqN 4 100 false (zDq saneU) []).toOption.getD ([],[])).1 rtN with
 |(r,none)=>intro h;cases h
 |(r,some e)=>intro h;simp only[Option.some.injEq]at h;subst h;rfl
def rtE:Array Value:=rtN.C
theorem rtE_one:rtE.all (·.oneCell')=true:=rtN.one rfl rfl rfl rfl rfl rfl rfl rfl rfl rfl rfl rfl rfl rfl
theorem rtN_at(w:World)(B:Nat):rtN.at w B:=⟨SlV.nil,SlV.nil,fun _ h=>(by cases h),SlV.nil,fun _ h=>(by cases h),SlV.nil,fun _ h=>(by cases h),SlV.nil,SlV.nil,SlV.nil,SlV.nil,SlV.nil,SlV.nil,SlV.nil,SlV.nil,SlV.nil,SlV.nil⟩
abbrev CRt(E:Rt→Int):Prop:=∀(r:Rt) (w:World) (B:Nat),r.at w B→B≤w.heap.size→r.fit→Calls Tryz.prog 26 #[.agg r.C] w fun e w' => e=.returned (.int .i64 (E r))∧Below w.heap.size w w'
def BRes(E:Rt→Int)(x:Int × Int × Rt)(B:Nat)(e:Ending)(w' : World):Prop :=
 ∃r:Rt,r.plain=x.2.2∧e=.returned (.tuple #[.agg r.C,.int .i64 x.1,.int .i64 x.2.1])∧(∀(ks:List Nat) w'', (∀k∈ks,k<B)→Fr ks w' w'' → r.at w'' w''.heap.size)∧(x.2.1≠0→r=rtN)∧(x.2.1=0→r.fit∧E r=0)
def BPost(E:Rt→Int)(l:List UInt8)(w:World)(e:Ending)(w' : World):Prop:=Below w.heap.size w w' ∧ BRes E (zKe E l) w.heap.size e w'
theorem BRes.bad{E:Rt→Int}{n f:Int}{B:Nat}{w' : World}(h:f≠0):BRes E (n,f,rtN) B (.returned (.tuple #[.agg rtE,.int .i64 n,.int .i64 f])) w' :=
 ⟨rtN,rfl,rfl,fun _ _ _ _=>rtN_at _ _,fun _=>rfl,fun e=>absurd e h⟩
theorem BRes.ok{E:Rt→Int}{n:Int}{B:Nat}{w' : World}{r p:Rt}(hp:r.plain=p)(ha:∀(ks:List Nat) w'', (∀k∈ks,k<B)→Fr ks w' w'' → r.at w'' w''.heap.size)(hf:r.fit)(hE:E r=0):BRes E (n,0,p) B (.returned (.tuple #[.agg r.C,.int .i64 n,.int .i64 0])) w' :=
 ⟨r,hp,rfl,ha,fun h=>absurd rfl h,fun _=>⟨hf,hE⟩⟩
theorem RtI.fits{k:Nat}{p r:Rt}(h:RtI k p)(hp:r.plain=p):r.fit:=by
 subst hp;exact⟨h.ifs.2,fun x hx=>(rulesL h hx).2,fun _ _=>trivial,fun x hx=>(rulesA h hx).2,h.nat.2,h.stat.2,h.ranges.2,h.lsRed.2,h.dvRed.2,h.nb.2,h.net.2,h.ag.2,h.cd.2,h.pvRed.2⟩
end Go.Proofs.YtdlgnhefpoalnaaGreatDoor
namespace Go.Proofs.YtdlgnhefpoalnaaGreatDoor
open Lib (hid)
open Go.RowKit Go.Shelf
def idxF{α:Type}(p:α→Bool):List α→Nat→Int
 |[],_ => -1
 |y :: r,i=>if p y then(i:Int)else idxF p r (i+1)
theorem idxF_lib{α:Type}(p:α→Bool)(d:α):∀(l:List α) (i:Nat),Lib.idxByFrom (fun _ y=>p y) d l i=idxF p l i
 |[],_=>rfl
 |y :: r,i=>by unfold Lib.idxByFrom idxF;rw[idxF_lib p d r (i+1)]
theorem idxF_take{α:Type}(p:α→Bool)(d:α)(l:List α):Lib.idxBy (fun _ y=>p y) (l.take l.length) d=idxF p l 0:=by
 rw[List.take_length];exact idxF_lib p d l 0
theorem idxF_bd{α:Type}(p:α→Bool):∀(l:List α) (i:Nat), -1≤idxF p l i∧idxF p l i<(i+l.length:Nat)
 |[],i=>⟨Int.le_refl _,by unfold idxF;omega⟩
 |y :: r,i=>by
  unfold idxF;have:=idxF_bd p r (i+1);split
  ·exact⟨by omega,by simp only[yG];omega⟩
  ·exact⟨this.1,by simp only[yG]at this⊢;omega⟩
theorem SlV.cells{α:Type}[Inhabited α]{w:World}{B n:Nat}{cells:α→Array Value}{v:Value}{xs:List α}(hn:0<n)(hl:∀x,(cells x).toList.length=n)(h:SlV w B n cells v xs) :
  xs=[]∨∃g o c,v=.slice (some ⟨g,o,none⟩) xs.length c∧g<B∧∀j,j<xs.length→∀i u,((cells xs[j]!).toList)[i]? = some u→w.cell? ⟨g,o+j*n+i,none⟩=some u:=by
 cases xs with
 |nil=>exact .inl rfl
 |cons y r=>
  right
  obtain⟨A,c,rfl,_,A', c', e,_,_,_,h⟩:=h;injection e with e1 e2 e3
  subst e1;obtain⟨g,o,rfl,hg,hc⟩:=h (by simp);refine⟨g,o,c,rfl,hg,fun j hj i u hu=>?_⟩
  have hi:i<n:=by
   rcases Nat.lt_or_ge i n with h' | h'
   ·exact h'
   ·rw[List.getElem?_eq_none (by rw[hl];exact h')]at hu;cases hu
  rw[Nat.add_assoc];refine hc (j*n+i) u ?_;rw[zHc (fun x=>(cells x).toList) hn hl,Nat.mul_comm j n,Nat.mul_add_div hn,Nat.div_eq_of_lt hi,Nat.add_zero,Nat.mul_add_mod,Nat.mod_eq_of_lt hi,List.getElem?_eq_getElem hj];rw[getElem!_pos (y :: r) j hj]at hu;exact hu
theorem SlV.elem{α:Type}{w:World}{B n:Nat}{cells:α→Array Value}{v:Value}{xs:List α}(hn:0<n)(hl:∀x,(cells x).toList.length=n)(h:SlV w B n cells v xs){k:Nat}(hk:k<xs.length) :
  ∃g o c,v=.slice (some ⟨g,o,none⟩) xs.length c∧xs.length≤c∧g<B∧w.rangeAt g (o+k*n) (cells xs[k]).toList:=by
 obtain⟨A,c,rfl,hle,A', c', e,_,_,_,h⟩:=h;injection e with e1 e2 e3
 subst e1;obtain⟨g,o,rfl,hg,hc⟩:=h (by omega);refine⟨g,o,c,rfl,hle,hg,fun i u hu=>?_⟩
 have hi:i<n:=by
  rcases Nat.lt_or_ge i n with h' | h'
  ·exact h'
  ·rw[List.getElem?_eq_none (by rw[hl];exact h')]at hu;cases hu
 rw[Nat.add_assoc];refine hc (k*n+i) u ?_;rw[zHc (fun x=>(cells x).toList) hn hl,Nat.mul_comm k n,Nat.mul_add_div hn,Nat.div_eq_of_lt hi,Nat.add_zero,Nat.mul_add_mod,Nat.mod_eq_of_lt hi,List.getElem?_eq_getElem hk];exact hu
def zAb(n lo hi:Int):Bool:=decide (lo≤n)&&decide (n≤hi)
theorem zAr(n lo hi:Int)(w:World):Calls Tryz.prog 88 #[.int .i64 n,.int .i64 lo,.int .i64 hi] w fun e w' => e=.returned (.bool (zAb n lo hi))∧w=w' := by
 by_cases h1:lo≤n
 ·have E:Hid (zAb n lo hi=decide (n≤hi)):=hid (by simp[zAb,h1])
  go_enter Tryz.func88,Tryz.ntmps88;go_wp2_with fail
  all_goals (go_ret;exact⟨zAe (by rw[E.out];first|done|(simp;done)|(simp;omega)),rfl⟩)
 ·have E:Hid (zAb n lo hi=false):=hid (by simp[zAb,h1])
  go_enter Tryz.func88,Tryz.ntmps88;go_wp2;go_ret;exact⟨zAe E.out.symm,rfl⟩
theorem zMt{α:Type}[Inhabited α]{n k:Nat}{C:α→Array Value}{v:Value}{l:List α}{p:α→Bool}{F FI:FuncId}{r:Rt}{w:World}{B:Nat}(x:Value)(T0:TypeId)(hn:0<n)(hnl:∀y,(C y).toList.length=n)(hk:r.C[k]? = some v)(hB:B≤w.heap.size)(hl:SlV w B n C v l)
  (hz:∀(A:Option Addr) (c:Nat) (fv:Value) (w:World),Calls Tryz.prog FI #[.slice A 0 c,fv] w fun e w' => e=.returned (.int .i64 (-1))∧w=w')
  (hx:∀W:World,w.heap.size+1<W.heap.size→W.cell? ⟨w.heap.size+1,0,none⟩=some x→∀g o c,g<W.heap.size→l.length≤maxLen→(∀j,j<l.length→∀i u,((C l[j]!).toList)[i]? = some u→W.cell? ⟨g,o+j*n+i,none⟩=some u)→Calls Tryz.prog FI #[.slice (some ⟨g,o,none⟩) l.length c,.func (.func F) #[] #[.pointer (some ⟨w.heap.size+1,0,none⟩)]] W fun e w' => e=.returned (.int .i64 (Lib.idxBy (fun _ y=>p y) (l.take l.length) default))∧Below W.heap.size W w') :
  ((w.alloc (.cells r.C 41)).alloc (.cells #[x] T0)).cell? ⟨w.heap.size,k,none⟩=some v∧((w.alloc (.cells r.C 41)).alloc (.cells #[x] T0)).cell? ⟨w.heap.size+1,0,none⟩=some x∧Hid (Calls Tryz.prog FI #[v,.func (.func F) #[] #[.pointer (some ⟨w.heap.size+1,0,none⟩)]] ((w.alloc (.cells r.C 41)).alloc (.cells #[x] T0)) fun e w' => e=.returned (.int .i64 (idxF p l 0))∧Below w.heap.size w w'):=by
 have H1:HasC 41 w.heap.size r.C ((w.alloc (.cells r.C 41)).alloc (.cells #[x] T0)):=(HasC.new w 41 r.C).keep ((Below.refl _ _).alloc (yI _) _);have B0:=((Below.refl w.heap.size w).alloc (yI _) (.cells r.C 41)).alloc (by simp) (.cells #[x] T0)
 have c1:((w.alloc (.cells r.C 41)).alloc (.cells #[x] T0)).cell? ⟨w.heap.size+1,0,none⟩=some x:=by
  have:=zCy (w.alloc (.cells r.C 41)) #[x] T0 0;rw[show(w.alloc (.cells r.C 41)).heap.size=w.heap.size+1 from by simp]at this;exact this
 have hsz:((w.alloc (.cells r.C 41)).alloc (.cells #[x] T0)).heap.size=w.heap.size+2:=by simp
 have HS:=hl.below (B0.mono hB);refine⟨(H1.cell k).trans hk,c1,hid ?_⟩;rcases SlV.cells hn hnl HS with e|⟨g,o,c,e,hg,hc⟩
 ·obtain⟨A,c,e2,_⟩:=HS
  rw[e2,e];refine(hz A c _ _).mono ?_;rintro e w' ⟨rfl,rfl⟩;exact⟨rfl,B0⟩
 ·rw[e]
  refine(hx _ (by rw[hsz];omega) c1 g o c (by rw[hsz];omega) HS.len hc).mono ?_;rintro e w' ⟨rfl,hb⟩;exact⟨by rw[idxF_take],B0.trans (hb.mono B0.size)⟩
theorem ixIf_zero(A:Option Addr)(c:Nat)(fv:Value)(w:World):Calls Tryz.prog 226 #[.slice A 0 c,fv] w fun e w' => e=.returned (.int .i64 (-1))∧w=w' := by
 go_enter Tryz.func226,Tryz.ntmps226;go_wp2;go_loopg [8] 1 (fun _ ix wr=>ix=.int .i64 0∧w=wr);case atStart=>exact⟨rfl,rfl⟩
 case round=>
  obtain⟨rfl,rfl⟩:=hrel;go_wp2;go_ret;exact⟨rfl,rfl⟩
theorem Tryz.aggIf(w:World):(isAgg 72).run Tryz.prog w=.ok true w:=by kernel_rfl
theorem Tryz.szofIf(w:World):(Go.sizeOf 72).run Tryz.prog w=.ok 12 w:=by kernel_rfl
theorem predIf(name:List UInt8)(B:Nat)(w:World)(hB:B<w.heap.size)(hcell:w.cell? ⟨B,0,none⟩=some (.string (str name))) :
  PredBelow Tryz.prog 227 #[.pointer (some ⟨B,0,none⟩)] (fun(x:If)=>.agg x.C.toList.toArray) (fun x=>x.name==name) w:=fun W x hb=>by
 have hc:W.cell? ⟨B,0,none⟩=some (.string (str name)):=(hb.cell (p:=⟨B,0,none⟩) hB).trans hcell;have hc2:∀o,(W.alloc o).cell? ⟨B,0,none⟩=some (.string (str name)):=fun o=>(World.cell?_alloc_lt W o ⟨B,0,none⟩ (by show B<_;have:=hb.size;omega)).trans hc
 have hb2:=hid (fun o=>hb.alloc hb.size o);have E:Hid (((str x.name).toList==(str name).toList)=(x.name==name)):=hid (by rw[zAh,zAh]);show Calls Tryz.prog 227 #[.agg x.C,.pointer (some ⟨B,0,none⟩)] W _;unfold If.C strV;clear hcell hb hB;go_enter Tryz.func227,Tryz.ntmps227;go_wp2_with fail
 all_goals (go_ret;exact⟨zAe (by rw[←E.out];first|done|(simp_all;done)),hb2.out _⟩)
theorem zLg(r:Rt)(name:List UInt8)(w:World)(B:Nat)(h:r.at w B)(hB:B≤w.heap.size):Calls Tryz.prog 167 #[.agg r.C,.string (str name)] w fun e w' => e=.returned (.int .i64 (idxF (fun x=>x.name==name) r.ifs 0))∧Below w.heap.size w w' := by
 obtain⟨c0,c1,HK⟩:=zMt (r:=r) (C:=If.C) (n:=12) (v:=r.ifsV) (l:=r.ifs) (p:=fun x=>x.name==name) (k:=2) (.string (str name)) 9 (by decide) (fun _=>rfl) rfl hB h.hifs ixIf_zero (fun _ h1 h2 g o c hg hm hc=>Tryz.slices_IndexFunc_f226 12 Tryz.aggIf Tryz.szofIf (fun(x:If)=>x.C.toList) (fun _=>rfl) (fun x=>x.name==name) 227 _ (enters_of Tryz.func227 (by kernel_rfl) rfl) g o r.ifs.length c r.ifs _ (predIf name (w.heap.size+1) _ h1 h2) (yI _) hm hg hc);clear h;go_enter Tryz.func167,Tryz.ntmps167;go_wp2_with fail;refine HK.out.mono ?_;rintro e w' ⟨rfl,hb⟩;go_wp2;go_ret;exact⟨rfl,hb⟩
theorem ixPList_zero(A:Option Addr)(c:Nat)(fv:Value)(w:World):Calls Tryz.prog 230 #[.slice A 0 c,fv] w fun e w' => e=.returned (.int .i64 (-1))∧w=w' := by
 go_enter Tryz.func230,Tryz.ntmps230;go_wp2;go_loopg [8] 1 (fun _ ix wr=>ix=.int .i64 0∧w=wr);case atStart=>exact⟨rfl,rfl⟩
 case round=>
  obtain⟨rfl,rfl⟩:=hrel;go_wp2;go_ret;exact⟨rfl,rfl⟩
theorem Tryz.aggPList(w:World):(isAgg 81).run Tryz.prog w=.ok true w:=by kernel_rfl
theorem Tryz.szofPList(w:World):(Go.sizeOf 81).run Tryz.prog w=.ok 2 w:=by kernel_rfl
theorem predPList(name:List UInt8)(B:Nat)(w:World)(hB:B<w.heap.size)(hcell:w.cell? ⟨B,0,none⟩=some (.string (str name))) :
  PredBelow Tryz.prog 231 #[.pointer (some ⟨B,0,none⟩)] (fun(x:PList)=>.agg x.C.toList.toArray) (fun x=>x.name==name) w:=fun W x hb=>by
 have hc:W.cell? ⟨B,0,none⟩=some (.string (str name)):=(hb.cell (p:=⟨B,0,none⟩) hB).trans hcell;have hc2:∀o,(W.alloc o).cell? ⟨B,0,none⟩=some (.string (str name)):=fun o=>(World.cell?_alloc_lt W o ⟨B,0,none⟩ (by show B<_;have:=hb.size;omega)).trans hc
 have hb2:=hid (fun o=>hb.alloc hb.size o);have E:Hid (((str x.name).toList==(str name).toList)=(x.name==name)):=hid (by rw[zAh,zAh]);show Calls Tryz.prog 231 #[.agg x.C,.pointer (some ⟨B,0,none⟩)] W _;unfold PList.C strV;clear hcell hb hB;go_enter Tryz.func231,Tryz.ntmps231;go_wp2_with fail
 all_goals (go_ret;exact⟨zAe (by rw[←E.out];first|done|(simp_all;done)),hb2.out _⟩)
theorem zEs(r:Rt)(name:List UInt8)(w:World)(B:Nat)(h:r.at w B)(hB:B≤w.heap.size):Calls Tryz.prog 172 #[.agg r.C,.string (str name)] w fun e w' => e=.returned (.int .i64 (idxF (fun x=>x.name==name) r.lists 0))∧Below w.heap.size w w' := by
 obtain⟨c0,c1,HK⟩:=zMt (r:=r) (C:=PList.C) (n:=2) (v:=r.listsV) (l:=r.lists) (p:=fun x=>x.name==name) (k:=3) (.string (str name)) 9 (by decide) (fun _=>rfl) rfl hB h.hlists ixPList_zero (fun _ h1 h2 g o c hg hm hc=>Tryz.slices_IndexFunc_f230 2 Tryz.aggPList Tryz.szofPList (fun(x:PList)=>x.C.toList) (fun _=>rfl) (fun x=>x.name==name) 231 _ (enters_of Tryz.func231 (by kernel_rfl) rfl) g o r.lists.length c r.lists _ (predPList name (w.heap.size+1) _ h1 h2) (yI _) hm hg hc);clear h;go_enter Tryz.func172,Tryz.ntmps172;go_wp2_with fail;refine HK.out.mono ?_;rintro e w' ⟨rfl,hb⟩;go_wp2;go_ret;exact⟨rfl,hb⟩
theorem ixRMap_zero(A:Option Addr)(c:Nat)(fv:Value)(w:World):Calls Tryz.prog 232 #[.slice A 0 c,fv] w fun e w' => e=.returned (.int .i64 (-1))∧w=w' := by
 go_enter Tryz.func232,Tryz.ntmps232;go_wp2;go_loopg [8] 1 (fun _ ix wr=>ix=.int .i64 0∧w=wr);case atStart=>exact⟨rfl,rfl⟩
 case round=>
  obtain⟨rfl,rfl⟩:=hrel;go_wp2;go_ret;exact⟨rfl,rfl⟩
theorem Tryz.aggRMap(w:World):(isAgg 84).run Tryz.prog w=.ok true w:=by kernel_rfl
theorem Tryz.szofRMap(w:World):(Go.sizeOf 84).run Tryz.prog w=.ok 2 w:=by kernel_rfl
theorem predRMap(name:List UInt8)(B:Nat)(w:World)(hB:B<w.heap.size)(hcell:w.cell? ⟨B,0,none⟩=some (.string (str name))) :
  PredBelow Tryz.prog 233 #[.pointer (some ⟨B,0,none⟩)] (fun(x:RMap)=>.agg x.C.toList.toArray) (fun x=>x.name==name) w:=fun W x hb=>by
 have hc:W.cell? ⟨B,0,none⟩=some (.string (str name)):=(hb.cell (p:=⟨B,0,none⟩) hB).trans hcell;have hc2:∀o,(W.alloc o).cell? ⟨B,0,none⟩=some (.string (str name)):=fun o=>(World.cell?_alloc_lt W o ⟨B,0,none⟩ (by show B<_;have:=hb.size;omega)).trans hc
 have hb2:=hid (fun o=>hb.alloc hb.size o);have E:Hid (((str x.name).toList==(str name).toList)=(x.name==name)):=hid (by rw[zAh,zAh]);show Calls Tryz.prog 233 #[.agg x.C,.pointer (some ⟨B,0,none⟩)] W _;unfold RMap.C strV;clear hcell hb hB;go_enter Tryz.func233,Tryz.ntmps233;go_wp2_with fail
 all_goals (go_ret;exact⟨zAe (by rw[←E.out];first|done|(simp_all;done)),hb2.out _⟩)
theorem zGi(r:Rt)(name:List UInt8)(w:World)(B:Nat)(h:r.at w B)(hB:B≤w.heap.size):Calls Tryz.prog 174 #[.agg r.C,.string (str name)] w fun e w' => e=.returned (.int .i64 (idxF (fun x=>x.name==name) r.maps 0))∧Below w.heap.size w w' := by
 obtain⟨c0,c1,HK⟩:=zMt (r:=r) (C:=RMap.C) (n:=2) (v:=r.mapsV) (l:=r.maps) (p:=fun x=>x.name==name) (k:=4) (.string (str name)) 9 (by decide) (fun _=>rfl) rfl hB h.hmaps ixRMap_zero (fun _ h1 h2 g o c hg hm hc=>Tryz.slices_IndexFunc_f232 2 Tryz.aggRMap Tryz.szofRMap (fun(x:RMap)=>x.C.toList) (fun _=>rfl) (fun x=>x.name==name) 233 _ (enters_of Tryz.func233 (by kernel_rfl) rfl) g o r.maps.length c r.maps _ (predRMap name (w.heap.size+1) _ h1 h2) (yI _) hm hg hc);clear h;go_enter Tryz.func174,Tryz.ntmps174;go_wp2_with fail;refine HK.out.mono ?_;rintro e w' ⟨rfl,hb⟩;go_wp2;go_ret;exact⟨rfl,hb⟩
theorem ixAList_zero(A:Option Addr)(c:Nat)(fv:Value)(w:World):Calls Tryz.prog 234 #[.slice A 0 c,fv] w fun e w' => e=.returned (.int .i64 (-1))∧w=w' := by
 go_enter Tryz.func234,Tryz.ntmps234;go_wp2;go_loopg [8] 1 (fun _ ix wr=>ix=.int .i64 0∧w=wr);case atStart=>exact⟨rfl,rfl⟩
 case round=>
  obtain⟨rfl,rfl⟩:=hrel;go_wp2;go_ret;exact⟨rfl,rfl⟩
theorem Tryz.aggAList(w:World):(isAgg 87).run Tryz.prog w=.ok true w:=by kernel_rfl
theorem Tryz.szofAList(w:World):(Go.sizeOf 87).run Tryz.prog w=.ok 2 w:=by kernel_rfl
theorem predAList(name:List UInt8)(B:Nat)(w:World)(hB:B<w.heap.size)(hcell:w.cell? ⟨B,0,none⟩=some (.string (str name))) :
  PredBelow Tryz.prog 235 #[.pointer (some ⟨B,0,none⟩)] (fun(x:AList)=>.agg x.C.toList.toArray) (fun x=>x.name==name) w:=fun W x hb=>by
 have hc:W.cell? ⟨B,0,none⟩=some (.string (str name)):=(hb.cell (p:=⟨B,0,none⟩) hB).trans hcell;have hc2:∀o,(W.alloc o).cell? ⟨B,0,none⟩=some (.string (str name)):=fun o=>(World.cell?_alloc_lt W o ⟨B,0,none⟩ (by show B<_;have:=hb.size;omega)).trans hc
 have hb2:=hid (fun o=>hb.alloc hb.size o);have E:Hid (((str x.name).toList==(str name).toList)=(x.name==name)):=hid (by rw[zAh,zAh]);show Calls Tryz.prog 235 #[.agg x.C,.pointer (some ⟨B,0,none⟩)] W _;unfold AList.C strV;clear hcell hb hB;go_enter Tryz.func235,Tryz.ntmps235;go_wp2_with fail
 all_goals (go_ret;exact⟨zAe (by rw[←E.out];first|done|(simp_all;done)),hb2.out _⟩)
theorem aCL_any(r:Rt)(name:List UInt8)(w:World)(B:Nat)(h:r.at w B)(hB:B≤w.heap.size):Calls Tryz.prog 176 #[.agg r.C,.string (str name)] w fun e w' => e=.returned (.int .i64 (idxF (fun x=>x.name==name) r.acls 0))∧Below w.heap.size w w' := by
 obtain⟨c0,c1,HK⟩:=zMt (r:=r) (C:=AList.C) (n:=2) (v:=r.aclsV) (l:=r.acls) (p:=fun x=>x.name==name) (k:=5) (.string (str name)) 9 (by decide) (fun _=>rfl) rfl hB h.hacls ixAList_zero (fun _ h1 h2 g o c hg hm hc=>Tryz.slices_IndexFunc_f234 2 Tryz.aggAList Tryz.szofAList (fun(x:AList)=>x.C.toList) (fun _=>rfl) (fun x=>x.name==name) 235 _ (enters_of Tryz.func235 (by kernel_rfl) rfl) g o r.acls.length c r.acls _ (predAList name (w.heap.size+1) _ h1 h2) (yI _) hm hg hc);clear h;go_enter Tryz.func176,Tryz.ntmps176;go_wp2_with fail;refine HK.out.mono ?_;rintro e w' ⟨rfl,hb⟩;go_wp2;go_ret;exact⟨rfl,hb⟩
def hasA(a:Nat)(x:If):Bool:=!(x.len==0)&&x.addr==a
theorem predAdr(adr:Nat)(B:Nat)(w:World)(hB:B<w.heap.size)(hcell:w.cell? ⟨B,0,none⟩=some (.int .u32 (adr:Int))) :
  PredBelow Tryz.prog 261 #[.pointer (some ⟨B,0,none⟩)] (fun(x:If)=>.agg x.C.toList.toArray) (hasA adr) w:=fun W x hb=>by
 have hc:W.cell? ⟨B,0,none⟩=some (.int .u32 (adr:Int)):=(hb.cell (p:=⟨B,0,none⟩) hB).trans hcell;have hc2:∀o,(W.alloc o).cell? ⟨B,0,none⟩=some (.int .u32 (adr:Int)):=fun o=>(World.cell?_alloc_lt W o ⟨B,0,none⟩ (by show B<_;have:=hb.size;omega)).trans hc
 have hb2:=hid (fun o=>hb.alloc hb.size o);have E:Hid (hasA adr x=(!(x.len==0)&&x.addr==adr)):=hid rfl;show Calls Tryz.prog 261 #[.agg x.C,.pointer (some ⟨B,0,none⟩)] W _;obtain⟨name,addr,len,vlan,down,ls,area,cost,dv,inn,out,side⟩:=x;unfold If.C strV;dsimp only at E⊢;clear hcell hb hB;by_cases h1:len=0
 ·subst h1
  go_enter Tryz.func261,Tryz.ntmps261;go_wp2;go_ret;exact⟨zAe (by rw[E.out];rfl),hb2.out _⟩
 ·have d1:(len != 0)=true:=by simpa using h1
  have d2:(len==0)=false:=by simpa using h1
  have d3:((addr:Int)==(adr:Int))=(addr==adr):=by rw[Bool.eq_iff_iff];simp;omega
  go_enter Tryz.func261,Tryz.ntmps261;go_wp2;go_ret;exact⟨zAe (by rw[E.out,d2,←d3];first|rfl|(simp;done)),hb2.out _⟩
theorem address_any(r:Rt)(adr:Nat)(w:World)(B:Nat)(h:r.at w B)(hB:B≤w.heap.size):Calls Tryz.prog 237 #[.agg r.C,.int .u32 (adr:Int)] w fun e w' => e=.returned (.int .i64 (idxF (hasA adr) r.ifs 0))∧Below w.heap.size w w' := by
 have H0:=HasC.new w 41 r.C;have H1:HasC 41 w.heap.size r.C ((w.alloc (.cells r.C 41)).alloc (.cells #[.int .u32 (adr:Int)] 70)):=H0.keep ((Below.refl _ _).alloc (yI _) _);have B0:=((Below.refl w.heap.size w).alloc (yI _) (.cells r.C 41)).alloc (by simp) (.cells #[.int .u32 (adr:Int)] 70)
 have c1:((w.alloc (.cells r.C 41)).alloc (.cells #[.int .u32 (adr:Int)] 70)).cell? ⟨w.heap.size+1,0,none⟩=some (.int .u32 (adr:Int)):=by
  have:=zCy (w.alloc (.cells r.C 41)) #[.int .u32 (adr:Int)] 70 0;rw[show(w.alloc (.cells r.C 41)).heap.size=w.heap.size+1 from by simp]at this;exact this
 have c0:=cl2 H1;have hsz:((w.alloc (.cells r.C 41)).alloc (.cells #[.int .u32 (adr:Int)] 70)).heap.size=w.heap.size+2:=by simp
 have HS:=h.hifs.below (B0.mono hB)
 have K:Calls Tryz.prog 226 #[r.ifsV,.func (.func 261) #[] #[.pointer (some ⟨w.heap.size+1,0,none⟩)]] ((w.alloc (.cells r.C 41)).alloc (.cells #[.int .u32 (adr:Int)] 70)) fun e w' => e=.returned (.int .i64 (idxF (hasA adr) r.ifs 0))∧Below w.heap.size w w' := by
  rcases SlV.cells (n:=12) (by decide) (fun _=>rfl) HS with e|⟨g,o,c,e,hg,hc⟩
  ·obtain⟨A,c,e2,_⟩:=HS
   rw[e2,e];refine(ixIf_zero A c _ _).mono ?_;rintro e w' ⟨rfl,rfl⟩;exact⟨rfl,B0⟩
  ·rw[e]
   have eg:∀args w,(callFunc 261 args).run Tryz.prog w=.ok (.enter 261 args) w:=enters_of Tryz.func261 (by kernel_rfl) rfl;have hm:=HS.len;refine(Tryz.slices_IndexFunc_f226 12 Tryz.aggIf Tryz.szofIf (fun(x:If)=>x.C.toList) (fun _=>rfl) (hasA adr) 261 _ eg g o r.ifs.length c r.ifs _ (predAdr adr (w.heap.size+1) _ (by rw[hsz];omega) c1) (yI _) (by simp only[maxLen]at hm;omega) (by rw[hsz];omega) hc).mono ?_;rintro e w' ⟨rfl,hb⟩;exact⟨by rw[idxF_take],B0.trans (hb.mono B0.size)⟩
 have HK:=hid K;clear K HS H0 H1 h;go_enter Tryz.func237,Tryz.ntmps237;go_wp2_with fail;refine HK.out.mono ?_;rintro e w' ⟨rfl,hb⟩;go_wp2;go_ret;exact⟨rfl,hb⟩
end Go.Proofs.YtdlgnhefpoalnaaGreatDoor
namespace Go.Proofs.YtdlgnhefpoalnaaGreatDoor
open Lib (hid)
open Go.RowKit
abbrev PRt(E:Rt→Int):Prop:=∀(s:ByteArray) (w:World),EnvA w.heap.size w→Calls Tryz.prog 9 #[.string s] w (BPost E (bytes s) w)
theorem sane_gen(E:Rt→Int)(PR:PRt E)(h0:E saneR=0)(w:World)(he:EnvA w.heap.size w):Calls Tryz.prog 12 #[] w fun e w' => e=.returned (.bool true)∧Below w.heap.size w w' := by
 have HP1:Hid (Calls Tryz.prog 9 #[.string (str saneT)] w (BPost E saneT w)):=hid (by have:=PR (str saneT) w he;rwa [zBk]at this);have HP2:Hid (∀W,EnvA W.heap.size W→Calls Tryz.prog 9 #[.string (str saneU)] W (BPost E saneU W)):=hid (fun W hW=>by have:=PR (str saneU) W hW;rwa [zBk]at this);have HE:=hid he;have H0:=hid h0;clear he PR h0;go_enter Tryz.func12,Tryz.ntmps12;go_wp2_with fail;refine HP1.out.mono ?_;rintro e w1 ⟨hb1,r,hpl,he1,hat,-,-⟩;rw[saneT_run E H0.out]at hpl he1;subst he1;have HPL:=hid hpl;have HAT:=hid hat;have HB1:=hid hb1;have HA1:=hid (hat [] w1 (fun _ h=>by cases h) (Fr.refl _ _));clear hpl hat hb1;go_upto_region 2 with(refine zAd rfl 41 _ _ rfl rfl (ds:=r.C) rfl (HasC.new _ _ _) rfl Tryz.sizeRt HA1.out.one ?_;intro w2 hz1 hz2)
 have HB2:=hid (zAi hz2);have X2:=hid hz1;have HE2:Hid (EnvA w2.heap.size w2):=hid ((HE.out.keep (HB1.out.trans (HB2.out.mono HB1.out.size))).up (yJ HB1.out.size HB2.out.size));have hlt:w1.heap.size<w2.heap.size:=zBj hz1;clear hz1 hz2;go_wp2_with fail;refine(HP2.out w2 HE2.out).mono ?_;rintro e w3 ⟨hb3,r3,hpl3,he3,-,hz3,-⟩;rw[saneU_run E]at he3 hz3;obtain rfl:r3=rtN:=hz3 (by decide);subst he3;have HB3:=hid hb3;clear hb3 hpl3 hz3;go_upto_region 3 with(refine zAd rfl 41 _ _ rfl rfl (ds:=rtE) rfl (HasC.new _ _ _) rfl Tryz.sizeRt rtE_one ?_;intro w4 hz1 hz2)
 have HB4:Hid (Below w2.heap.size w2 w4):=hid (HB3.out.trans ((zAi hz2).mono HB3.out.size));clear hz1 hz2;have X4:=hid (X2.out.keep HB4.out);have HA4:=HAT.out [] w4 (fun _ h=>by cases h) (Fr.of_below (HB2.out.trans (HB4.out.mono HB2.out.size)));have HBF:Hid (Below w.heap.size w w4):=hid (HB1.out.trans ((HB2.out.trans (HB4.out.mono HB2.out.size)).mono HB1.out.size));have hn:r.name=[114,49]:=(congrArg Rt.name HPL.out:r.plain.name=_);have hi:r.ifs=saneR.ifs:=(congrArg Rt.ifs HPL.out:r.plain.ifs=_);have hs:r.stat=saneR.stat:=(congrArg Rt.stat HPL.out:r.plain.stat=_);have S1:SlV w4 w4.heap.size 12 If.C r.ifsV saneR.ifs:=hi ▸ HA4.hifs;have S2:SlV w4 w4.heap.size 7 Sr.C r.statV saneR.stat:=hs ▸ HA4.hstat;obtain⟨gi,oi,ci,ei,-,hgi,Ri⟩:=S1.elem (n:=12) (by decide) (fun _=>rfl) (k:=0) (by decide);obtain⟨gs,os,cs,es,-,hgs,Rs⟩:=S2.elem (n:=7) (by decide) (fun _=>rfl) (k:=0) (by decide);have k0:w4.cell? ⟨w1.heap.size,0,none⟩=.some (.string (str [114,49])):=(X4.out.cell 0).trans (by show some (strV r.name)=_;rw[hn];rfl);have k2:w4.cell? ⟨w1.heap.size,2,none⟩=.some (.slice (some ⟨gi,oi,none⟩) 1 ci):=(X4.out.cell 2).trans (by show some r.ifsV=_;rw[ei];rfl);have k7:w4.cell? ⟨w1.heap.size,7,none⟩=.some (.slice (some ⟨gs,os,none⟩) 1 cs):=(X4.out.cell 7).trans (by show some r.statV=_;rw[es];rfl)
 have kd:w4.cell? ⟨gi,oi+4,none⟩=.some (.bool false):=by
  have:=Ri 4 _ rfl;rw[Nat.zero_mul,Nat.add_zero]at this;exact this
 have ke:w4.cell? ⟨gs,os+5,none⟩=.some (.int .i64 5):=by
  have:=Rs 5 _ rfl;rw[Nat.zero_mul,Nat.add_zero]at this;exact this
 have kq:((str [114,49]).toList==[114,49])=true:=by rw[zAh];rfl
 clear S1 Ri Rs ei es HA4 hn hi hs hgi hgs S2;go_wp2;go_ret;exact⟨rfl,HBF.out⟩
theorem rule1_any(k g o b B:Nat)(cur:Array Value)(x:Ru)(kb:Bool)(p:Ps)(w:World)(h:Ck 144 g o cur (187,kb) b B [(k,.cells #[.pointer (some ⟨g,o,none⟩)] 218 (0,0))] w x.C p w)(he:EnvA B w)(hs:p.short) :
  Calls Tryz.prog 250 #[.pointer (some ⟨b,0,none⟩),.pointer (some ⟨k,0,none⟩)] w (FPost ruleF ruF Ru.C x 144 g o cur (187,kb) b B [(k,.cells #[.pointer (some ⟨g,o,none⟩)] 218 (0,0))] w p):=by
 have H:=hid h;have HE:=hid he;have HS:=hid hs;have HKG:k≠g:=(H.out.keep _ List.mem_cons_self).2.1;clear h he hs;have q0:=wq (wV p) [112,114,111,116,111,99,111,108];have q1:=wq (wV p) [115,111,117,114,99,101];have q2:=wq (wV p) [100,101,115,116,105,110,97,116,105,111,110];have q3:=wq (wV p) [115,111,117,114,99,101,45,112,111,114,116];have q4:=wq (wV p) [100,101,115,116,105,110,97,116,105,111,110,45,112,111,114,116];have q5:=wq (wV p) [97,99,99,101,112,116];have q6:=wq (wV p) [100,105,115,99,97,114,100];go_enter Tryz.func250,Tryz.ntmps250;go_wp2_with fail;refine(zCa b B p _ H.out.st).mono ?_;rintro e w1 ⟨rfl,h1,k1⟩;have H1:=hid (H.out.word h1 k1);clear h1 k1;unfold strV;cases e0:(wV p==[112,114,111,116,111,99,111,108])with
 |true=>
  rw[e0]at q0;have E:Hid (∀r,ruleF r p=(wV p,none,ruF (fun x=>{ x with proto:=protV (wS p) }) r,protS (wS p))):=hid (fun r=>by unfold ruleF;rw[e0];rfl);have fz:=H1.out.frz;have ck:=H1.out.kc;go_wp2_with fail;have D2:=hid H1.out.drew;clear fz ck;go_region_held3 (fun w' => w'.cell? ⟨k,0,none⟩=some (.pointer (some ⟨g,o,none⟩))) (first|assumption|with_reducible exact D2.out.kc|with_reducible exact H2.out.kc|((repeat with_reducible refine zAw HKG ?_);first|assumption|with_reducible exact H2.out.kc)) (((with_reducible refine(wprotocol_any b B (wS p) _ D2.out.st).mono ?_);rintro e w2 ⟨rfl,h2,k2⟩;have H2:=hid (D2.out.word h2 k2);clear h2 k2;have fz:=H2.out.frz;obtain⟨y1,c1⟩:=H2.out.cell (j:=1) (show 1<10 from by decide)));go_wp2_with fail;go_ret2;exact⟨_,fun x=>{ x with proto:=protV (wS p) },_,E.out,rfl,(H2.out.put (j:=1) (show 1<10 from by decide) _ rfl)⟩
 |false=>
  rw[e0]at q0;cases e1:(wV p==[115,111,117,114,99,101])with
  |true=>
   rw[e1]at q1;have E:Hid (∀r,ruleF r p=(wV p,none,ruF (fun x=>{ x with sa:=(wiV (wS p)).1,sm:=(wiV (wS p)).2 }) r,wiS (wS p))):=hid (fun r=>by unfold ruleF;rw[e0,e1];rfl);have fz:=H1.out.frz;have ck:=H1.out.kc;go_wp2_with fail;have D2:=hid H1.out.drew;clear fz ck;go_region_held3 (fun w' => w'.cell? ⟨k,0,none⟩=some (.pointer (some ⟨g,o,none⟩))) (first|assumption|with_reducible exact D2.out.kc|with_reducible exact H2.out.kc|((repeat with_reducible refine zAw HKG ?_);first|assumption|with_reducible exact H2.out.kc)) (((with_reducible refine(zKz b B (wS p) _ D2.out.st (D2.out.env HE.out) (zBs HS.out)).mono ?_);rintro e w2 ⟨rfl,h2,k2⟩;have H2:=hid (D2.out.word h2 k2);clear h2 k2;have fz:=H2.out.frz;obtain⟨y2,c2⟩:=H2.out.cell (j:=2) (show 2<10 from by decide);obtain⟨y3,c3⟩:=H2.out.cell (j:=3) (show 3<10 from by decide)));go_wp2_with fail;go_ret2;exact⟨_,fun x=>{ x with sa:=(wiV (wS p)).1,sm:=(wiV (wS p)).2 },_,E.out,rfl,((H2.out.put (j:=2) (show 2<10 from by decide) _ rfl).put (j:=3) (show 3<10 from by decide) _ rfl)⟩
  |false=>
   rw[e1]at q1;cases e2:(wV p==[100,101,115,116,105,110,97,116,105,111,110])with
   |true=>
    rw[e2]at q2;have E:Hid (∀r,ruleF r p=(wV p,none,ruF (fun x=>{ x with da:=(wiV (wS p)).1,dm:=(wiV (wS p)).2 }) r,wiS (wS p))):=hid (fun r=>by unfold ruleF;rw[e0,e1,e2];rfl);have fz:=H1.out.frz;have ck:=H1.out.kc;go_wp2_with fail;have D2:=hid H1.out.drew;clear fz ck;go_region_held3 (fun w' => w'.cell? ⟨k,0,none⟩=some (.pointer (some ⟨g,o,none⟩))) (first|assumption|with_reducible exact D2.out.kc|with_reducible exact H2.out.kc|((repeat with_reducible refine zAw HKG ?_);first|assumption|with_reducible exact H2.out.kc)) (((with_reducible refine(zKz b B (wS p) _ D2.out.st (D2.out.env HE.out) (zBs HS.out)).mono ?_);rintro e w2 ⟨rfl,h2,k2⟩;have H2:=hid (D2.out.word h2 k2);clear h2 k2;have fz:=H2.out.frz;obtain⟨y4,c4⟩:=H2.out.cell (j:=4) (show 4<10 from by decide);obtain⟨y5,c5⟩:=H2.out.cell (j:=5) (show 5<10 from by decide)));go_wp2_with fail;go_ret2;exact⟨_,fun x=>{ x with da:=(wiV (wS p)).1,dm:=(wiV (wS p)).2 },_,E.out,rfl,((H2.out.put (j:=4) (show 4<10 from by decide) _ rfl).put (j:=5) (show 5<10 from by decide) _ rfl)⟩
   |false=>
    rw[e2]at q2;cases e3:(wV p==[115,111,117,114,99,101,45,112,111,114,116])with
    |true=>
     rw[e3]at q3;have E:Hid (∀r,ruleF r p=(wV p,none,ruF (fun x=>{ x with slo:=(poV (wS p)).1,shi:=(poV (wS p)).2 }) r,poS (wS p))):=hid (fun r=>by unfold ruleF;rw[e0,e1,e2,e3];rfl);have fz:=H1.out.frz;have ck:=H1.out.kc;go_wp2_with fail;have D2:=hid H1.out.drew;clear fz ck;go_region_held3 (fun w' => w'.cell? ⟨k,0,none⟩=some (.pointer (some ⟨g,o,none⟩))) (first|assumption|with_reducible exact D2.out.kc|with_reducible exact H2.out.kc|((repeat with_reducible refine zAw HKG ?_);first|assumption|with_reducible exact H2.out.kc)) (((with_reducible refine(wports_any b B (wS p) _ D2.out.st (D2.out.env HE.out) (zBs HS.out)).mono ?_);rintro e w2 ⟨rfl,h2,k2⟩;have H2:=hid (D2.out.word h2 k2);clear h2 k2;have fz:=H2.out.frz;obtain⟨y6,c6⟩:=H2.out.cell (j:=6) (show 6<10 from by decide);obtain⟨y7,c7⟩:=H2.out.cell (j:=7) (show 7<10 from by decide)));go_wp2_with fail;go_ret2;exact⟨_,fun x=>{ x with slo:=(poV (wS p)).1,shi:=(poV (wS p)).2 },_,E.out,rfl,((H2.out.put (j:=6) (show 6<10 from by decide) _ rfl).put (j:=7) (show 7<10 from by decide) _ rfl)⟩
    |false=>
     rw[e3]at q3;cases e4:(wV p==[100,101,115,116,105,110,97,116,105,111,110,45,112,111,114,116])with
     |true=>
      rw[e4]at q4;have E:Hid (∀r,ruleF r p=(wV p,none,ruF (fun x=>{ x with dlo:=(poV (wS p)).1,dhi:=(poV (wS p)).2 }) r,poS (wS p))):=hid (fun r=>by unfold ruleF;rw[e0,e1,e2,e3,e4];rfl);have fz:=H1.out.frz;have ck:=H1.out.kc;go_wp2_with fail;have D2:=hid H1.out.drew;clear fz ck;go_region_held3 (fun w' => w'.cell? ⟨k,0,none⟩=some (.pointer (some ⟨g,o,none⟩))) (first|assumption|with_reducible exact D2.out.kc|with_reducible exact H2.out.kc|((repeat with_reducible refine zAw HKG ?_);first|assumption|with_reducible exact H2.out.kc)) (((with_reducible refine(wports_any b B (wS p) _ D2.out.st (D2.out.env HE.out) (zBs HS.out)).mono ?_);rintro e w2 ⟨rfl,h2,k2⟩;have H2:=hid (D2.out.word h2 k2);clear h2 k2;have fz:=H2.out.frz;obtain⟨y8,c8⟩:=H2.out.cell (j:=8) (show 8<10 from by decide);obtain⟨y9,c9⟩:=H2.out.cell (j:=9) (show 9<10 from by decide)));go_wp2_with fail;go_ret2;exact⟨_,fun x=>{ x with dlo:=(poV (wS p)).1,dhi:=(poV (wS p)).2 },_,E.out,rfl,((H2.out.put (j:=8) (show 8<10 from by decide) _ rfl).put (j:=9) (show 9<10 from by decide) _ rfl)⟩
     |false=>
      rw[e4]at q4;cases e5:(wV p==[97,99,99,101,112,116])with
      |true=>
       rw[e5]at q5;have E:Hid (∀r,ruleF r p=([97,99,116,105,111,110],none,ruF (fun x=>{ x with permit:=true }) r,wS p)):=hid (fun r=>by unfold ruleF;rw[e0,e1,e2,e3,e4,e5];rfl);have fz:=H1.out.frz;have ck:=H1.out.kc;obtain⟨y0,c0⟩:=H1.out.cell (j:=0) (show 0<10 from by decide);have fz0:=H1.out.frz 0;rw[Nat.add_zero]at c0 fz0;go_wp2_with fail;go_ret2;exact⟨_,fun x=>{ x with permit:=true },_,E.out,rfl,(H1.out.put (j:=0) (show 0<10 from by decide) _ rfl)⟩
      |false=>
       rw[e5]at q5;cases e6:(wV p==[100,105,115,99,97,114,100])with
       |true=>
        rw[e6]at q6;have E:Hid (∀r,ruleF r p=([97,99,116,105,111,110],none,ruF (fun x=>{ x with permit:=false }) r,wS p)):=hid (fun r=>by unfold ruleF;rw[e0,e1,e2,e3,e4,e5,e6];rfl);have fz:=H1.out.frz;have ck:=H1.out.kc;obtain⟨y0,c0⟩:=H1.out.cell (j:=0) (show 0<10 from by decide);have fz0:=H1.out.frz 0;rw[Nat.add_zero]at c0 fz0;go_wp2_with fail;go_ret2;exact⟨_,fun x=>{ x with permit:=false },_,E.out,rfl,(H1.out.put (j:=0) (show 0<10 from by decide) _ rfl)⟩
       |false=>
        rw[e6]at q6;have E:Hid (∀r,ruleF r p=(wV p,none,ruF (fun x=>x) r,(wS p).fail)):=hid (fun r=>by rw[ruF_id];unfold ruleF;rw[e0,e1,e2,e3,e4,e5,e6];rfl);have fz:=H1.out.frz;have ck:=H1.out.kc;have fb:=H1.out.st.frz 2;have cb:=H1.out.st.bad1;go_wp2_with fail;go_ret2;exact⟨_,fun x=>x,_,E.out,rfl,H1.out.bad⟩
theorem static1_any(k g o b B:Nat)(cur:Array Value)(x:Sr)(kb:Bool)(p:Ps)(w:World)(h:Ck 78 g o cur (187,kb) b B [(k,.cells #[.pointer (some ⟨g,o,none⟩)] 227 (0,0))] w x.C p w)(he:EnvA B w)(hs:p.short) :
  Calls Tryz.prog 255 #[.pointer (some ⟨b,0,none⟩),.pointer (some ⟨k,0,none⟩)] w (FPost zEr stF Sr.C x 78 g o cur (187,kb) b B [(k,.cells #[.pointer (some ⟨g,o,none⟩)] 227 (0,0))] w p):=by
 have H:=hid h;have HE:=hid he;have HS:=hid hs;have HKG:k≠g:=(H.out.keep _ List.mem_cons_self).2.1;clear h he hs;have q0:=wq (wV p) [110,101,120,116,45,104,111,112];have q1:=wq (wV p) [105,110,116,101,114,102,97,99,101];have q2:=wq (wV p) [100,105,115,99,97,114,100];have q3:=wq (wV p) [112,114,101,102,101,114,101,110,99,101];have q4:=wq (wV p) [116,97,103];go_enter Tryz.func255,Tryz.ntmps255;go_wp2_with fail;refine(zCa b B p _ H.out.st).mono ?_;rintro e w1 ⟨rfl,h1,k1⟩;have H1:=hid (H.out.word h1 k1);clear h1 k1;unfold strV;cases e0:(wV p==[110,101,120,116,45,104,111,112])with
 |true=>
  rw[e0]at q0;have E:Hid (∀r,zEr r p=([116,97,114,103,101,116],none,stF (fun x=>{ x with next:=adV (wS p) }) r,adS (wS p))):=hid (fun r=>by unfold zEr;rw[e0];rfl);have fz:=H1.out.frz;have ck:=H1.out.kc;go_wp2_with fail;have D2:=hid H1.out.drew;clear fz ck;go_region_held3 (fun w' => w'.cell? ⟨k,0,none⟩=some (.pointer (some ⟨g,o,none⟩))) (first|assumption|with_reducible exact D2.out.kc|with_reducible exact H2.out.kc|((repeat with_reducible refine zAw HKG ?_);first|assumption|with_reducible exact H2.out.kc)) (((with_reducible refine(zCu b B (wS p) _ D2.out.st (D2.out.env HE.out) (zBs HS.out)).mono ?_);rintro e w2 ⟨rfl,h2,k2⟩;have H2:=hid (D2.out.word h2 k2);clear h2 k2;have fz:=H2.out.frz;obtain⟨y2,c2⟩:=H2.out.cell (j:=2) (show 2<7 from by decide)));go_wp2_with fail;go_ret2;exact⟨_,fun x=>{ x with next:=adV (wS p) },_,E.out,rfl,(H2.out.put (j:=2) (show 2<7 from by decide) _ rfl)⟩
 |false=>
  rw[e0]at q0;cases e1:(wV p==[105,110,116,101,114,102,97,99,101])with
  |true=>
   rw[e1]at q1;have E:Hid (∀r,zEr r p=([116,97,114,103,101,116],none,stF (fun x=>{ x with iface:=nmV (wS p) }) r,nmS (wS p))):=hid (fun r=>by unfold zEr;rw[e0,e1];rfl);have fz:=H1.out.frz;have ck:=H1.out.kc;go_wp2_with fail;have D2:=hid H1.out.drew;clear fz ck;go_region_held3 (fun w' => w'.cell? ⟨k,0,none⟩=some (.pointer (some ⟨g,o,none⟩))) (first|assumption|with_reducible exact D2.out.kc|with_reducible exact H2.out.kc|((repeat with_reducible refine zAw HKG ?_);first|assumption|with_reducible exact H2.out.kc)) (((with_reducible refine(zCx b B (wS p) _ D2.out.st).mono ?_);rintro e w2 ⟨rfl,h2,k2⟩;have H2:=hid (D2.out.word h2 k2);clear h2 k2;unfold strV;have fz:=H2.out.frz;obtain⟨y3,c3⟩:=H2.out.cell (j:=3) (show 3<7 from by decide)));go_wp2_with fail;go_ret2;exact⟨_,fun x=>{ x with iface:=nmV (wS p) },_,E.out,rfl,(H2.out.put (j:=3) (show 3<7 from by decide) _ rfl)⟩
  |false=>
   rw[e1]at q1;cases e2:(wV p==[100,105,115,99,97,114,100])with
   |true=>
    rw[e2]at q2;have E:Hid (∀r,zEr r p=([116,97,114,103,101,116],none,stF (fun x=>{ x with discard:=true }) r,wS p)):=hid (fun r=>by unfold zEr;rw[e0,e1,e2];rfl);have fz:=H1.out.frz;have ck:=H1.out.kc;obtain⟨y4,c4⟩:=H1.out.cell (j:=4) (show 4<7 from by decide);go_wp2_with fail;go_ret2;exact⟨_,fun x=>{ x with discard:=true },_,E.out,rfl,(H1.out.put (j:=4) (show 4<7 from by decide) _ rfl)⟩
   |false=>
    rw[e2]at q2;cases e3:(wV p==[112,114,101,102,101,114,101,110,99,101])with
    |true=>
     rw[e3]at q3;have E:Hid (∀r,zEr r p=(wV p,none,stF (fun x=>{ x with admin:=noV 1 255 (wS p) }) r,noS 1 255 (wS p))):=hid (fun r=>by unfold zEr;rw[e0,e1,e2,e3];rfl);have fz:=H1.out.frz;have ck:=H1.out.kc;go_wp2_with fail;have D2:=hid H1.out.drew;clear fz ck;go_region_held3 (fun w' => w'.cell? ⟨k,0,none⟩=some (.pointer (some ⟨g,o,none⟩))) (first|assumption|with_reducible exact D2.out.kc|with_reducible exact H2.out.kc|((repeat with_reducible refine zAw HKG ?_);first|assumption|with_reducible exact H2.out.kc)) (((with_reducible refine(zAs b B (wS p) 1 255 _ D2.out.st).mono ?_);rintro e w2 ⟨rfl,h2,k2⟩;have H2:=hid (D2.out.word h2 k2);clear h2 k2;have fz:=H2.out.frz;obtain⟨y5,c5⟩:=H2.out.cell (j:=5) (show 5<7 from by decide)));go_wp2_with fail;go_ret2;exact⟨_,fun x=>{ x with admin:=noV 1 255 (wS p) },_,E.out,rfl,(H2.out.put (j:=5) (show 5<7 from by decide) _ rfl)⟩
    |false=>
     rw[e3]at q3;cases e4:(wV p==[116,97,103])with
     |true=>
      rw[e4]at q4;have E:Hid (∀r,zEr r p=(wV p,none,stF (fun x=>{ x with tag:=noV 0 65535 (wS p) }) r,noS 0 65535 (wS p))):=hid (fun r=>by unfold zEr;rw[e0,e1,e2,e3,e4];rfl);have fz:=H1.out.frz;have ck:=H1.out.kc;go_wp2_with fail;have D2:=hid H1.out.drew;clear fz ck;go_region_held3 (fun w' => w'.cell? ⟨k,0,none⟩=some (.pointer (some ⟨g,o,none⟩))) (first|assumption|with_reducible exact D2.out.kc|with_reducible exact H2.out.kc|((repeat with_reducible refine zAw HKG ?_);first|assumption|with_reducible exact H2.out.kc)) (((with_reducible refine(zAs b B (wS p) 0 65535 _ D2.out.st).mono ?_);rintro e w2 ⟨rfl,h2,k2⟩;have H2:=hid (D2.out.word h2 k2);clear h2 k2;have fz:=H2.out.frz;obtain⟨y6,c6⟩:=H2.out.cell (j:=6) (show 6<7 from by decide)));go_wp2_with fail;go_ret2;exact⟨_,fun x=>{ x with tag:=noV 0 65535 (wS p) },_,E.out,rfl,(H2.out.put (j:=6) (show 6<7 from by decide) _ rfl)⟩
     |false=>
      rw[e4]at q4;have E:Hid (∀r,zEr r p=(wV p,none,stF (fun x=>x) r,(wS p).fail)):=hid (fun r=>by rw[stF_id];unfold zEr;rw[e0,e1,e2,e3,e4];rfl);have fz:=H1.out.frz;have ck:=H1.out.kc;have fb:=H1.out.st.frz 2;have cb:=H1.out.st.bad1;go_wp2_with fail;go_ret2;exact⟨_,fun x=>x,_,E.out,rfl,H1.out.bad⟩
theorem neighbor1_any(k g o b B:Nat)(cur:Array Value)(x:Nb)(kb:Bool)(p:Ps)(w:World)(h:Ck 149 g o cur (187,kb) b B [(k,.cells #[.pointer (some ⟨g,o,none⟩)] 272 (0,0))] w x.C p w)(he:EnvA B w)(hs:p.short) :
  Calls Tryz.prog 259 #[.pointer (some ⟨b,0,none⟩),.pointer (some ⟨k,0,none⟩)] w (FPost zEc nbF' Nb.C x 149 g o cur (187,kb) b B [(k,.cells #[.pointer (some ⟨g,o,none⟩)] 272 (0,0))] w p):=by
 have H:=hid h;have HE:=hid he;have HS:=hid hs;have HKG:k≠g:=(H.out.keep _ List.mem_cons_self).2.1;clear h he hs;have q0:=wq (wV p) [97,115];have q1:=wq (wV p) [105,109,112,111,114,116];have q2:=wq (wV p) [101,120,112,111,114,116];go_enter Tryz.func259,Tryz.ntmps259;go_wp2_with fail;refine(zCa b B p _ H.out.st).mono ?_;rintro e w1 ⟨rfl,h1,k1⟩;have H1:=hid (H.out.word h1 k1);clear h1 k1;unfold strV;cases e0:(wV p==[97,115])with
 |true=>
  rw[e0]at q0;have E:Hid (∀r,zEc r p=(wV p,none,nbF' (fun x=>{ x with asn:=noV 1 65535 (wS p) }) r,noS 1 65535 (wS p))):=hid (fun r=>by unfold zEc;rw[e0];rfl);have fz:=H1.out.frz;have ck:=H1.out.kc;go_wp2_with fail;have D2:=hid H1.out.drew;clear fz ck;go_region_held3 (fun w' => w'.cell? ⟨k,0,none⟩=some (.pointer (some ⟨g,o,none⟩))) (first|assumption|with_reducible exact D2.out.kc|with_reducible exact H2.out.kc|((repeat with_reducible refine zAw HKG ?_);first|assumption|with_reducible exact H2.out.kc)) (((with_reducible refine(zAs b B (wS p) 1 65535 _ D2.out.st).mono ?_);rintro e w2 ⟨rfl,h2,k2⟩;have H2:=hid (D2.out.word h2 k2);clear h2 k2;have fz:=H2.out.frz;obtain⟨y1,c1⟩:=H2.out.cell (j:=1) (show 1<4 from by decide)));go_wp2_with fail;go_ret2;exact⟨_,fun x=>{ x with asn:=noV 1 65535 (wS p) },_,E.out,rfl,(H2.out.put (j:=1) (show 1<4 from by decide) _ rfl)⟩
 |false=>
  rw[e0]at q0;cases e1:(wV p==[105,109,112,111,114,116])with
  |true=>
   rw[e1]at q1;have E:Hid (∀r,zEc r p=(wV p,none,nbF' (fun x=>{ x with inn:=nmV (wS p) }) r,nmS (wS p))):=hid (fun r=>by unfold zEc;rw[e0,e1];rfl);have fz:=H1.out.frz;have ck:=H1.out.kc;go_wp2_with fail;have D2:=hid H1.out.drew;clear fz ck;go_region_held3 (fun w' => w'.cell? ⟨k,0,none⟩=some (.pointer (some ⟨g,o,none⟩))) (first|assumption|with_reducible exact D2.out.kc|with_reducible exact H2.out.kc|((repeat with_reducible refine zAw HKG ?_);first|assumption|with_reducible exact H2.out.kc)) (((with_reducible refine(zCx b B (wS p) _ D2.out.st).mono ?_);rintro e w2 ⟨rfl,h2,k2⟩;have H2:=hid (D2.out.word h2 k2);clear h2 k2;unfold strV;have fz:=H2.out.frz;obtain⟨y2,c2⟩:=H2.out.cell (j:=2) (show 2<4 from by decide)));go_wp2_with fail;go_ret2;exact⟨_,fun x=>{ x with inn:=nmV (wS p) },_,E.out,rfl,(H2.out.put (j:=2) (show 2<4 from by decide) _ rfl)⟩
  |false=>
   rw[e1]at q1;cases e2:(wV p==[101,120,112,111,114,116])with
   |true=>
    rw[e2]at q2;have E:Hid (∀r,zEc r p=(wV p,none,nbF' (fun x=>{ x with out:=nmV (wS p) }) r,nmS (wS p))):=hid (fun r=>by unfold zEc;rw[e0,e1,e2];rfl);have fz:=H1.out.frz;have ck:=H1.out.kc;go_wp2_with fail;have D2:=hid H1.out.drew;clear fz ck;go_region_held3 (fun w' => w'.cell? ⟨k,0,none⟩=some (.pointer (some ⟨g,o,none⟩))) (first|assumption|with_reducible exact D2.out.kc|with_reducible exact H2.out.kc|((repeat with_reducible refine zAw HKG ?_);first|assumption|with_reducible exact H2.out.kc)) (((with_reducible refine(zCx b B (wS p) _ D2.out.st).mono ?_);rintro e w2 ⟨rfl,h2,k2⟩;have H2:=hid (D2.out.word h2 k2);clear h2 k2;unfold strV;have fz:=H2.out.frz;obtain⟨y3,c3⟩:=H2.out.cell (j:=3) (show 3<4 from by decide)));go_wp2_with fail;go_ret2;exact⟨_,fun x=>{ x with out:=nmV (wS p) },_,E.out,rfl,(H2.out.put (j:=3) (show 3<4 from by decide) _ rfl)⟩
   |false=>
    rw[e2]at q2;have E:Hid (∀r,zEc r p=(wV p,none,nbF' (fun x=>x) r,(wS p).fail)):=hid (fun r=>by rw[nbF_id];unfold zEc;rw[e0,e1,e2];rfl);have fz:=H1.out.frz;have ck:=H1.out.kc;have fb:=H1.out.st.frz 2;have cb:=H1.out.st.bad1;go_wp2_with fail;go_ret2;exact⟨_,fun x=>x,_,E.out,rfl,H1.out.bad⟩
theorem iface1_any(k g o b B:Nat)(cur:Array Value)(x:If)(kb:Bool)(p:Ps)(w:World)(h:Ck 72 g o cur (187,kb) b B [(k,.cells #[.pointer (some ⟨g,o,none⟩)] 211 (0,0))] w x.C p w)(he:EnvA B w)(hs:p.short) :
  Calls Tryz.prog 246 #[.pointer (some ⟨b,0,none⟩),.pointer (some ⟨k,0,none⟩)] w (FPost zDy ifF If.C x 72 g o cur (187,kb) b B [(k,.cells #[.pointer (some ⟨g,o,none⟩)] 211 (0,0))] w p):=by
 have H:=hid h;have HE:=hid he;have HS:=hid hs;have HKG:k≠g:=(H.out.keep _ List.mem_cons_self).2.1;clear h he hs;have q0:=wq (wV p) [97,100,100,114,101,115,115];have q1:=wq (wV p) [118,108,97,110];have q2:=wq (wV p) [100,105,115,97,98,108,101];have q3:=wq (wV p) [108,105,110,107,45,115,116,97,116,101];have q4:=wq (wV p) [100,105,115,116,97,110,99,101,45,118,101,99,116,111,114];have q5:=wq (wV p) [105,110,112,117,116];have q6:=wq (wV p) [111,117,116,112,117,116];have q7:=wq (wV p) [115,105,100,101];go_enter Tryz.func246,Tryz.ntmps246;go_wp2_with fail;refine(zCa b B p _ H.out.st).mono ?_;rintro e w1 ⟨rfl,h1,k1⟩;have H1:=hid (H.out.word h1 k1);clear h1 k1;unfold strV;cases e0:(wV p==[97,100,100,114,101,115,115])with
 |true=>
  rw[e0]at q0;have E:Hid (∀r,zDy r p=(wV p,none,ifF (fun x=>{ x with addr:=(hoV (wS p)).1,len:=(hoV (wS p)).2 }) r,hoS (wS p))):=hid (fun r=>by unfold zDy;rw[e0];rfl);have fz:=H1.out.frz;have ck:=H1.out.kc;go_wp2_with fail;have D2:=hid H1.out.drew;clear fz ck;go_region_held3 (fun w' => w'.cell? ⟨k,0,none⟩=some (.pointer (some ⟨g,o,none⟩))) (first|assumption|with_reducible exact D2.out.kc|with_reducible exact H2.out.kc|((repeat with_reducible refine zAw HKG ?_);first|assumption|with_reducible exact H2.out.kc)) (((with_reducible refine(whost_any b B (wS p) _ D2.out.st (D2.out.env HE.out) (zBs HS.out)).mono ?_);rintro e w2 ⟨rfl,h2,k2⟩;have H2:=hid (D2.out.word h2 k2);clear h2 k2;have fz:=H2.out.frz;obtain⟨y1,c1⟩:=H2.out.cell (j:=1) (show 1<12 from by decide);obtain⟨y2,c2⟩:=H2.out.cell (j:=2) (show 2<12 from by decide)));go_wp2_with fail;go_ret2;exact⟨_,fun x=>{ x with addr:=(hoV (wS p)).1,len:=(hoV (wS p)).2 },_,E.out,rfl,((H2.out.put (j:=1) (show 1<12 from by decide) _ rfl).put (j:=2) (show 2<12 from by decide) _ rfl)⟩
 |false=>
  rw[e0]at q0;cases e1:(wV p==[118,108,97,110])with
  |true=>
   rw[e1]at q1;have E:Hid (∀r,zDy r p=(wV p,none,ifF (fun x=>{ x with vlan:=noV 0 4094 (wS p) }) r,noS 0 4094 (wS p))):=hid (fun r=>by unfold zDy;rw[e0,e1];rfl);have fz:=H1.out.frz;have ck:=H1.out.kc;go_wp2_with fail;have D2:=hid H1.out.drew;clear fz ck;go_region_held3 (fun w' => w'.cell? ⟨k,0,none⟩=some (.pointer (some ⟨g,o,none⟩))) (first|assumption|with_reducible exact D2.out.kc|with_reducible exact H2.out.kc|((repeat with_reducible refine zAw HKG ?_);first|assumption|with_reducible exact H2.out.kc)) (((with_reducible refine(zAs b B (wS p) 0 4094 _ D2.out.st).mono ?_);rintro e w2 ⟨rfl,h2,k2⟩;have H2:=hid (D2.out.word h2 k2);clear h2 k2;have fz:=H2.out.frz;obtain⟨y3,c3⟩:=H2.out.cell (j:=3) (show 3<12 from by decide)));go_wp2_with fail;go_ret2;exact⟨_,fun x=>{ x with vlan:=noV 0 4094 (wS p) },_,E.out,rfl,(H2.out.put (j:=3) (show 3<12 from by decide) _ rfl)⟩
  |false=>
   rw[e1]at q1;cases e2:(wV p==[100,105,115,97,98,108,101])with
   |true=>
    rw[e2]at q2;have E:Hid (∀r,zDy r p=(wV p,none,ifF (fun x=>{ x with down:=true }) r,wS p)):=hid (fun r=>by unfold zDy;rw[e0,e1,e2];rfl);have fz:=H1.out.frz;have ck:=H1.out.kc;obtain⟨y4,c4⟩:=H1.out.cell (j:=4) (show 4<12 from by decide);go_wp2_with fail;go_ret2;exact⟨_,fun x=>{ x with down:=true },_,E.out,rfl,(H1.out.put (j:=4) (show 4<12 from by decide) _ rfl)⟩
   |false=>
    rw[e2]at q2;cases e3:(wV p==[108,105,110,107,45,115,116,97,116,101])with
    |true=>
     rw[e3]at q3;cases c:isW [99,111,115,116] (noS 0 255 (mustS (isW [97,114,101,97] (wS p)) (optS [97,114,101,97] (wS p))))with
     |true=>
      have E:Hid (∀r,zDy r p=(wV p,none,ifF (fun x=>{ x with ls:=true,area:=noV 0 255 (mustS (isW [97,114,101,97] (wS p)) (optS [97,114,101,97] (wS p))),cost:=noV 1 65535 (optS [99,111,115,116] (noS 0 255 (mustS (isW [97,114,101,97] (wS p)) (optS [97,114,101,97] (wS p))))) }) r,noS 1 65535 (optS [99,111,115,116] (noS 0 255 (mustS (isW [97,114,101,97] (wS p)) (optS [97,114,101,97] (wS p))))))):=hid (fun r=>by unfold zDy;rw[e0,e1,e2,e3];show(_,_,ifF (fun x=>{ x with ls:=true,area:=(ifLS (wS p)).1,cost:=(ifLS (wS p)).2.1 }) r,(ifLS (wS p)).2.2)=_;have hl:ifLS (wS p)=(noV 0 255 (mustS (isW [97,114,101,97] (wS p)) (optS [97,114,101,97] (wS p))),noV 1 65535 (optS [99,111,115,116] (noS 0 255 (mustS (isW [97,114,101,97] (wS p)) (optS [97,114,101,97] (wS p))))),noS 1 65535 (optS [99,111,115,116] (noS 0 255 (mustS (isW [97,114,101,97] (wS p)) (optS [97,114,101,97] (wS p)))))):=(by unfold ifLS;dsimp only;rw[c];rfl);rw[hl]);have HC:=hid c;clear c;have fz:=H1.out.frz;have ck:=H1.out.kc;go_wp2_with fail;clear fz ck;refine(zBu b B (wS p) [97,114,101,97] _ H1.out.st).mono ?_;rintro e w2 ⟨rfl,h2,k2⟩;have H2:=hid (H1.out.word h2 k2);clear h2 k2;have fz:=H2.out.frz;have ck:=H2.out.kc;go_wp2_with fail;clear fz ck;refine(zDw b B (optS [97,114,101,97] (wS p)) _ _ H2.out.st).mono ?_;rintro e w3 ⟨rfl,h3,k3⟩;have H3:=hid (H2.out.word h3 k3);clear h3 k3;have fz:=H3.out.frz;have ck:=H3.out.kc;go_wp2_with fail;have D4:=hid H3.out.drew;clear fz ck;go_region_held3 (fun w' => w'.cell? ⟨k,0,none⟩=some (.pointer (some ⟨g,o,none⟩))) (first|assumption|with_reducible exact D4.out.kc|with_reducible exact H4.out.kc|((repeat with_reducible refine zAw HKG ?_);first|assumption|with_reducible exact H4.out.kc)) (((with_reducible refine(zAs b B (mustS (isW [97,114,101,97] (wS p)) (optS [97,114,101,97] (wS p))) 0 255 _ D4.out.st).mono ?_);rintro e w4 ⟨rfl,h4,k4⟩;have H4:=hid (D4.out.word h4 k4);clear h4 k4;have fz:=H4.out.frz;obtain⟨y5,c5⟩:=H4.out.cell (j:=5) (show 5<12 from by decide);obtain⟨y6,c6⟩:=H4.out.cell (j:=6) (show 6<12 from by decide);obtain⟨y7,c7⟩:=H4.out.cell (j:=7) (show 7<12 from by decide)));have fz:=H4.out.frz;have ck:=H4.out.kc;go_wp2_with fail;clear fz ck;refine(zBu b B (noS 0 255 (mustS (isW [97,114,101,97] (wS p)) (optS [97,114,101,97] (wS p)))) [99,111,115,116] _ (((H4.out.put (j:=5) (show 5<12 from by decide) _ rfl).put (j:=6) (show 6<12 from by decide) _ rfl).put (j:=7) (show 7<12 from by decide) _ rfl).st).mono ?_;rintro e w5 ⟨rfl,h5,k5⟩;have H5:=hid ((((H4.out.put (j:=5) (show 5<12 from by decide) _ rfl).put (j:=6) (show 6<12 from by decide) _ rfl).put (j:=7) (show 7<12 from by decide) _ rfl).word h5 k5);clear h5 k5;rw[HC.out];have fz:=H5.out.frz;have ck:=H5.out.kc;go_wp2_with fail;have D6:=hid H5.out.drew;clear fz ck;go_region_held3 (fun w' => w'.cell? ⟨k,0,none⟩=some (.pointer (some ⟨g,o,none⟩))) (first|assumption|with_reducible exact D6.out.kc|with_reducible exact H6.out.kc|((repeat with_reducible refine zAw HKG ?_);first|assumption|with_reducible exact H6.out.kc)) (((with_reducible refine(zAs b B (optS [99,111,115,116] (noS 0 255 (mustS (isW [97,114,101,97] (wS p)) (optS [97,114,101,97] (wS p))))) 1 65535 _ D6.out.st).mono ?_);rintro e w6 ⟨rfl,h6,k6⟩;have H6:=hid (D6.out.word h6 k6);clear h6 k6;have fz:=H6.out.frz;obtain⟨y7,c7⟩:=H6.out.cell (j:=7) (show 7<12 from by decide)));go_wp2_with fail;go_ret2;exact⟨_,fun x=>{ x with ls:=true,area:=noV 0 255 (mustS (isW [97,114,101,97] (wS p)) (optS [97,114,101,97] (wS p))),cost:=noV 1 65535 (optS [99,111,115,116] (noS 0 255 (mustS (isW [97,114,101,97] (wS p)) (optS [97,114,101,97] (wS p))))) },_,E.out,rfl,(H6.out.put (j:=7) (show 7<12 from by decide) _ rfl)⟩
     |false=>
      have E:Hid (∀r,zDy r p=(wV p,none,ifF (fun x=>{ x with ls:=true,area:=noV 0 255 (mustS (isW [97,114,101,97] (wS p)) (optS [97,114,101,97] (wS p))),cost:=1 }) r,(noS 0 255 (mustS (isW [97,114,101,97] (wS p)) (optS [97,114,101,97] (wS p)))))):=hid (fun r=>by unfold zDy;rw[e0,e1,e2,e3];show(_,_,ifF (fun x=>{ x with ls:=true,area:=(ifLS (wS p)).1,cost:=(ifLS (wS p)).2.1 }) r,(ifLS (wS p)).2.2)=_;have hl:ifLS (wS p)=(noV 0 255 (mustS (isW [97,114,101,97] (wS p)) (optS [97,114,101,97] (wS p))),1,(noS 0 255 (mustS (isW [97,114,101,97] (wS p)) (optS [97,114,101,97] (wS p))))):=(by unfold ifLS;dsimp only;rw[c];rfl);rw[hl]);have HC:=hid c;clear c;have fz:=H1.out.frz;have ck:=H1.out.kc;go_wp2_with fail;clear fz ck;refine(zBu b B (wS p) [97,114,101,97] _ H1.out.st).mono ?_;rintro e w2 ⟨rfl,h2,k2⟩;have H2:=hid (H1.out.word h2 k2);clear h2 k2;have fz:=H2.out.frz;have ck:=H2.out.kc;go_wp2_with fail;clear fz ck;refine(zDw b B (optS [97,114,101,97] (wS p)) _ _ H2.out.st).mono ?_;rintro e w3 ⟨rfl,h3,k3⟩;have H3:=hid (H2.out.word h3 k3);clear h3 k3;have fz:=H3.out.frz;have ck:=H3.out.kc;go_wp2_with fail;have D4:=hid H3.out.drew;clear fz ck;go_region_held3 (fun w' => w'.cell? ⟨k,0,none⟩=some (.pointer (some ⟨g,o,none⟩))) (first|assumption|with_reducible exact D4.out.kc|with_reducible exact H4.out.kc|((repeat with_reducible refine zAw HKG ?_);first|assumption|with_reducible exact H4.out.kc)) (((with_reducible refine(zAs b B (mustS (isW [97,114,101,97] (wS p)) (optS [97,114,101,97] (wS p))) 0 255 _ D4.out.st).mono ?_);rintro e w4 ⟨rfl,h4,k4⟩;have H4:=hid (D4.out.word h4 k4);clear h4 k4;have fz:=H4.out.frz;obtain⟨y5,c5⟩:=H4.out.cell (j:=5) (show 5<12 from by decide);obtain⟨y6,c6⟩:=H4.out.cell (j:=6) (show 6<12 from by decide);obtain⟨y7,c7⟩:=H4.out.cell (j:=7) (show 7<12 from by decide)));have fz:=H4.out.frz;have ck:=H4.out.kc;go_wp2_with fail;clear fz ck;refine(zBu b B (noS 0 255 (mustS (isW [97,114,101,97] (wS p)) (optS [97,114,101,97] (wS p)))) [99,111,115,116] _ (((H4.out.put (j:=5) (show 5<12 from by decide) _ rfl).put (j:=6) (show 6<12 from by decide) _ rfl).put (j:=7) (show 7<12 from by decide) _ rfl).st).mono ?_;rintro e w5 ⟨rfl,h5,k5⟩;rw[zGu HC.out]at h5;have H5:=hid ((((H4.out.put (j:=5) (show 5<12 from by decide) _ rfl).put (j:=6) (show 6<12 from by decide) _ rfl).put (j:=7) (show 7<12 from by decide) _ rfl).word h5 k5);clear h5 k5;rw[HC.out];have fz:=H5.out.frz;have ck:=H5.out.kc;go_wp2_with fail;go_ret2;exact⟨_,fun x=>{ x with ls:=true,area:=noV 0 255 (mustS (isW [97,114,101,97] (wS p)) (optS [97,114,101,97] (wS p))),cost:=1 },_,E.out,rfl,H5.out⟩
    |false=>
     rw[e3]at q3;cases e4:(wV p==[100,105,115,116,97,110,99,101,45,118,101,99,116,111,114])with
     |true=>
      rw[e4]at q4;have E:Hid (∀r,zDy r p=(wV p,none,ifF (fun x=>{ x with dv:=true }) r,wS p)):=hid (fun r=>by unfold zDy;rw[e0,e1,e2,e3,e4];rfl);have fz:=H1.out.frz;have ck:=H1.out.kc;obtain⟨y8,c8⟩:=H1.out.cell (j:=8) (show 8<12 from by decide);go_wp2_with fail;go_ret2;exact⟨_,fun x=>{ x with dv:=true },_,E.out,rfl,(H1.out.put (j:=8) (show 8<12 from by decide) _ rfl)⟩
     |false=>
      rw[e4]at q4;cases e5:(wV p==[105,110,112,117,116])with
      |true=>
       rw[e5]at q5;have E:Hid (∀r,zDy r p=(wV p,none,ifF (fun x=>{ x with inn:=nmV (wS p) }) r,nmS (wS p))):=hid (fun r=>by unfold zDy;rw[e0,e1,e2,e3,e4,e5];rfl);have fz:=H1.out.frz;have ck:=H1.out.kc;go_wp2_with fail;have D2:=hid H1.out.drew;clear fz ck;go_region_held3 (fun w' => w'.cell? ⟨k,0,none⟩=some (.pointer (some ⟨g,o,none⟩))) (first|assumption|with_reducible exact D2.out.kc|with_reducible exact H2.out.kc|((repeat with_reducible refine zAw HKG ?_);first|assumption|with_reducible exact H2.out.kc)) (((with_reducible refine(zCx b B (wS p) _ D2.out.st).mono ?_);rintro e w2 ⟨rfl,h2,k2⟩;have H2:=hid (D2.out.word h2 k2);clear h2 k2;unfold strV;have fz:=H2.out.frz;obtain⟨y9,c9⟩:=H2.out.cell (j:=9) (show 9<12 from by decide)));go_wp2_with fail;go_ret2;exact⟨_,fun x=>{ x with inn:=nmV (wS p) },_,E.out,rfl,(H2.out.put (j:=9) (show 9<12 from by decide) _ rfl)⟩
      |false=>
       rw[e5]at q5;cases e6:(wV p==[111,117,116,112,117,116])with
       |true=>
        rw[e6]at q6;have E:Hid (∀r,zDy r p=(wV p,none,ifF (fun x=>{ x with out:=nmV (wS p) }) r,nmS (wS p))):=hid (fun r=>by unfold zDy;rw[e0,e1,e2,e3,e4,e5,e6];rfl);have fz:=H1.out.frz;have ck:=H1.out.kc;go_wp2_with fail;have D2:=hid H1.out.drew;clear fz ck;go_region_held3 (fun w' => w'.cell? ⟨k,0,none⟩=some (.pointer (some ⟨g,o,none⟩))) (first|assumption|with_reducible exact D2.out.kc|with_reducible exact H2.out.kc|((repeat with_reducible refine zAw HKG ?_);first|assumption|with_reducible exact H2.out.kc)) (((with_reducible refine(zCx b B (wS p) _ D2.out.st).mono ?_);rintro e w2 ⟨rfl,h2,k2⟩;have H2:=hid (D2.out.word h2 k2);clear h2 k2;unfold strV;have fz:=H2.out.frz;obtain⟨y10,c10⟩:=H2.out.cell (j:=10) (show 10<12 from by decide)));go_wp2_with fail;go_ret2;exact⟨_,fun x=>{ x with out:=nmV (wS p) },_,E.out,rfl,(H2.out.put (j:=10) (show 10<12 from by decide) _ rfl)⟩
       |false=>
        rw[e6]at q6;cases e7:(wV p==[115,105,100,101])with
        |true=>
         rw[e7]at q7;cases c:chB [105,110,115,105,100,101] [111,117,116,115,105,100,101] (wS p)with
         |true=>
          have E:Hid (∀r,zDy r p=(wV p,none,ifF (fun x=>{ x with side:=1 }) r,chS [105,110,115,105,100,101] [111,117,116,115,105,100,101] (wS p))):=hid (fun r=>by unfold zDy;rw[e0,e1,e2,e3,e4,e5,e6,e7,c];rfl);have HC:=hid c;clear c;have fz:=H1.out.frz;have ck:=H1.out.kc;obtain⟨y11,c11⟩:=H1.out.cell (j:=11) (show 11<12 from by decide);go_wp2_with fail;clear fz ck;refine(zEj b B (wS p) [105,110,115,105,100,101] [111,117,116,115,105,100,101] _ (H1.out.put (j:=11) (show 11<12 from by decide) _ rfl).st).mono ?_;rintro e w2 ⟨rfl,h2,k2⟩;have H2:=hid ((H1.out.put (j:=11) (show 11<12 from by decide) _ rfl).word h2 k2);clear h2 k2;rw[HC.out];have fz:=H2.out.frz;have ck:=H2.out.kc;obtain⟨y11,c11⟩:=H2.out.cell (j:=11) (show 11<12 from by decide);go_wp2_with fail;go_ret2;exact⟨_,fun x=>{ x with side:=1 },_,E.out,rfl,(H2.out.put (j:=11) (show 11<12 from by decide) _ rfl)⟩
         |false=>
          have E:Hid (∀r,zDy r p=(wV p,none,ifF (fun x=>{ x with side:=2 }) r,chS [105,110,115,105,100,101] [111,117,116,115,105,100,101] (wS p))):=hid (fun r=>by unfold zDy;rw[e0,e1,e2,e3,e4,e5,e6,e7,c];rfl);have HC:=hid c;clear c;have fz:=H1.out.frz;have ck:=H1.out.kc;obtain⟨y11,c11⟩:=H1.out.cell (j:=11) (show 11<12 from by decide);go_wp2_with fail;clear fz ck;refine(zEj b B (wS p) [105,110,115,105,100,101] [111,117,116,115,105,100,101] _ (H1.out.put (j:=11) (show 11<12 from by decide) _ rfl).st).mono ?_;rintro e w2 ⟨rfl,h2,k2⟩;have H2:=hid ((H1.out.put (j:=11) (show 11<12 from by decide) _ rfl).word h2 k2);clear h2 k2;rw[HC.out];have fz:=H2.out.frz;have ck:=H2.out.kc;go_wp2_with fail;go_ret2;exact⟨_,fun x=>{ x with side:=2 },_,E.out,rfl,H2.out⟩
        |false=>
         rw[e7]at q7;have E:Hid (∀r,zDy r p=(wV p,none,ifF (fun x=>x) r,(wS p).fail)):=hid (fun r=>by rw[ifF_id];unfold zDy;rw[e0,e1,e2,e3,e4,e5,e6,e7];rfl);have fz:=H1.out.frz;have ck:=H1.out.kc;have fb:=H1.out.st.frz 2;have cb:=H1.out.st.bad1;go_wp2_with fail;go_ret2;exact⟨_,fun x=>x,_,E.out,rfl,H1.out.bad⟩
section
variable {α β : Type} {E E' : TypeId} {n g B b j gg cap : Nat} {C : α → Array Value} {D : β → Array Value} {v v' V : Value} {l l' : List α} {l0 : List β} {m m' : β} {K : Kept} {w0 w w1 : World} {r r' : Rt} {T : TypeId × Bool} {p : Ps} {pre post ex : List Orow}
theorem BW.grow(h:BW g B w0 r K T b p w)(e:(btR r).Perm (rowE E n C v l :: post))(e' : (btR r').Perm (rowE E n C v' l' :: (ex++post)))(hx:∀o∈ex,o.v.ownBlock=none∧∀w,o.own w B)
  (ho:OwnE w1 B E n C v' l') (hg:w.grownBy w1 v.ownBlock) (hn:v'.ownBlock=v.ownBlock∨v'.ownBlock=none∨∃k,v'.ownBlock=some k∧w.heap.size≤k) (ec:r.C.setIfInBounds j v' = r'.C):BW g B w0 r' K T b p (w1.setCell ⟨g,j,none⟩ v'):=by
 have hm:∀k,v.ownBlock=some k→k∈blks (btR r):=fun k hk=>(zHb e).2 (List.mem_filterMap.2 ⟨rowE E n C v l,by simp,hk⟩)
 have hgo:v.ownBlock≠some g:=fun e1=>h.gr (hm _ e1)
 have hbo:v.ownBlock≠some b:=fun e1=>h.br (hm _ e1)
 have hgs:=zBb w1 g j v';have hlt:=h.lt
 have hgo' : v'.ownBlock≠some g:=fun e1=>by
  rcases hn with q|q|⟨k,q,hk⟩
  ·exact hgo (q.symm.trans e1)
  ·rw[q]at e1;cases e1
  ·rw[q]at e1;injection e1 with e1;omega
 have hb2:=h.st.other hg (fun k hk=>⟨(h.blt (hm k hk)).2,fun e1=>hbo (by rw[hk,e1])⟩);have hex:ex.filterMap (·.v.ownBlock)=[]:=List.filterMap_eq_nil_iff.2 (fun o ho=>(hx o ho).1)
 have hone:∀k,k∈blks (rowE E n C v' l' :: ex)→v'.ownBlock=some k:=by
  intro k hk;obtain⟨o,ho,hk⟩:=List.mem_filterMap.1 hk;rcases List.mem_cons.1 ho with rfl|ho
  ·exact hk
  ·rw[(hx o ho).1]at hk;cases hk
 refine h.turn (X:=[rowE E n C v l]) (X' := rowE E n C v' l' :: ex) (post:=post) e (by simpa using e') ((Fr.of_grown hg (fun k hk=>?_)).trans (Fr.ofOne hgs (by simp))) ?_ (hb2.other hgs (fun k hk=>by cases hk;exact⟨h.gB,h.gb⟩)) ⟨fun o ho' => ?_,?_⟩ (fun k hk=>?_)
 ·exact List.mem_cons_of_mem _ (List.mem_cons_of_mem _ (List.mem_filterMap.2 ⟨rowE E n C v l,by simp,hk⟩))
 ·rw[←ec];exact Lib.heap_setCell_same (i:=j) (h.has.grown hg (fun e1=>hgo e1.symm)) v'
 ·rcases List.mem_cons.1 ho' with rfl|ho'
  ·exact OwnE.frame ho hgs (fun k (hk:v'.ownBlock=some k) e1=>hgo' (hk.trans e1.symm))
  ·exact(hx o ho').2 _
 ·rw[List.filterMap_cons];split<;>simp[hex]
 ·have hk:=hone k hk
  rcases hn with q|q|⟨k', q,hk2⟩
  ·exact .inl (List.mem_filterMap.2 ⟨rowE E n C v l,by simp,q.symm.trans hk⟩)
  ·rw[q]at hk;cases hk
  ·rw[q]at hk;injection hk with hk;subst hk;exact .inr hk2
theorem BW.inner(h:BW g B w0 r K T b p w)(e:(btR r).Perm (rowE E' 2 D V (l0++[m]) :: rowE E n C v l :: post))(e' : (btR r').Perm (rowE E' 2 D V (l0++[m']) :: rowE E n C v' l' :: post))
  (hV:V=.slice (some ⟨gg,0,none⟩) (l0.length+1) cap) (hD:∀x,(D x).toList.length=2) (hm:(D m).setIfInBounds 1 v' = D m') (hc:r'.C=r.C)
  (ho:OwnE w1 B E n C v' l') (hg:w.grownBy w1 v.ownBlock) (hn:v'.ownBlock=v.ownBlock∨v'.ownBlock=none∨∃k,v'.ownBlock=some k∧w.heap.size≤k):BW g B w0 r' K T b p (w1.setCell ⟨gg,l0.length*2+1,none⟩ v'):=by
 have hall:=h.own.perm e.symm;have ho0:OwnE w B E' 2 D V (l0++[m]):=hall.1 (rowE E' 2 D V (l0++[m])) (by simp);obtain⟨g', cap', cur,e1,hgB,hp,hs⟩:=ho0.part (by decide) hD (k:=l0.length) (by simp);have hVb:V.ownBlock=some gg:=by rw[hV];rfl
 rw[hV]at e1;injection e1 with e1 _ e3
 injection e1 with e1
 injection e1 with e1 _ _
 subst e1;have hx:(l0++[m])[l0.length]'(by simp)=m:=by simp
 rw[hx]at hp;have hd:=hall.2;rw[List.filterMap_cons_some (f:=fun x:Orow=>x.v.ownBlock) (b:=gg) (show(rowE E' 2 D V (l0++[m])).v.ownBlock=some gg from hVb)]at hd
 have hvg:v.ownBlock≠some gg:=fun ev=>by
  rw[List.filterMap_cons_some (f:=fun x:Orow=>x.v.ownBlock) (b:=gg) (show(rowE E n C v l).v.ownBlock=some gg from ev)]at hd;simp at hd
 have hlt:=hp.lt
 have hvg' : v'.ownBlock≠some gg:=fun e1=>by
  rcases hn with q|q|⟨k,q,hk⟩
  ·exact hvg (q.symm.trans e1)
  ·rw[q]at e1;cases e1
  ·rw[q]at e1;injection e1 with e1;omega
 have hm1:gg∈blks (btR r):=(zHb e).2 (List.mem_filterMap.2 ⟨rowE E' 2 D V (l0++[m]),by simp,hVb⟩);have hm2:∀k,v.ownBlock=some k→k∈blks (btR r):=fun k hk=>(zHb e).2 (List.mem_filterMap.2 ⟨rowE E n C v l,by simp,hk⟩)
 have hgs:=zBb w1 gg (l0.length*2+1) v';have hpz:=(hp.frame hg hvg).put (j:=1) (by have:=hD m;rw[←Array.length_toList];omega) v' hm;have hset:=hs _ m' hpz.1;rw[setAtL_snoc]at hset;have hggne:gg≠g:=fun e1=>h.gr (e1 ▸ hm1)
 have hbne:gg≠b:=fun e1=>h.br (e1 ▸ hm1)
 have hb2:=(h.st.other hg (fun k hk=>⟨(h.blt (hm2 k hk)).2,fun e1=>h.br (e1 ▸ hm2 k hk)⟩)).other hgs (fun k hk=>by cases hk;exact⟨hgB,hbne⟩);refine h.turn (X:=[rowE E' 2 D V (l0++[m]),rowE E n C v l]) (X' := [rowE E' 2 D V (l0++[m']),rowE E n C v' l']) (post:=post) e e' ((Fr.of_grown hg (fun k hk=>?_)).trans (Fr.ofOne hgs ?_)) ?_ hb2 ⟨fun o ho' => ?_,?_⟩ (fun k hk=>?_)
 ·exact List.mem_cons_of_mem _ (List.mem_cons_of_mem _ (List.mem_filterMap.2 ⟨rowE E n C v l,by simp,hk⟩))
 ·exact List.mem_cons_of_mem _ (List.mem_cons_of_mem _ (List.mem_filterMap.2 ⟨rowE E' 2 D V (l0++[m]),by simp,hVb⟩))
 ·rw[hc]
  exact(h.has.grown hg (fun e1=>h.gr (hm2 g e1.symm))).grown hgs (fun e1=>hggne (by injection e1 with e1;exact e1.symm))
 ·simp only[List.mem_cons,List.not_mem_nil,or_false]at ho'
  rcases ho' with rfl|rfl
  ·exact hset
  ·exact OwnE.frame ho hgs (fun k (hk:v'.ownBlock=some k) e1=>hvg' (hk.trans e1.symm))
 ·rw[List.filterMap_cons_some (f:=fun x:Orow=>x.v.ownBlock) (b:=gg) (show(rowE E' 2 D V (l0++[m'])).v.ownBlock=some gg from hVb),List.filterMap_cons]
  split
  ·simp
  ·rename_i c hc'
   refine List.nodup_cons.2 ⟨fun hm=>?_,by simp⟩;rw[List.filterMap_nil,List.mem_singleton]at hm;exact hvg' (by rw[hm];exact hc')
 ·obtain⟨o,ho', hk'⟩:=List.mem_filterMap.1 hk
  simp only[List.mem_cons,List.not_mem_nil,or_false]at ho';rcases ho' with rfl|rfl
  ·exact .inl (List.mem_filterMap.2 ⟨rowE E' 2 D V (l0++[m]),by simp,hk'⟩)
  ·rcases hn with q|q|⟨k', q,hk2⟩
   ·exact .inl (List.mem_filterMap.2 ⟨rowE E n C v l,by simp,q.symm.trans hk'⟩)
   ·rw[show(rowE E n C v' l').v.ownBlock=v'.ownBlock from rfl,q]at hk';cases hk'
   ·rw[show(rowE E n C v' l').v.ownBlock=v'.ownBlock from rfl,q]at hk';injection hk' with hk';subst hk';exact .inr hk2
theorem zGf{f:Fm}{fv:Value}{F:Rt→Ps→FmR}{mk:(α→α)→Rt→Rt}{mkR:(α→α)→Rt}{x:α}{o:Nat}{cur:Array Value}{K0:Kept}{e:Ending}{w' : World}(hF:∀r p,fmS f T.2 r p=F r p)
  (hclose:∀(φ:α→α) (p' : Ps) (w' : World),Ck E gg o cur T b B K0 w (C (φ x)) p' w' → BW g B w0 (mkR φ) K T b p' w') (hpl:∀φ,mk φ r.plain=(mkR φ).plain) (hst:∀φ,f≠.top→Stay r (mkR φ))
  (hfm:∀φ K0,FmV f g r K0 fv→FmV f g (mkR φ) K0 fv) (hp:FPost F mk C x E gg o cur T b B K0 w p e w'):FormP f fv g B w0 r K T b p w e w' := by
 obtain⟨key,φ,p', hq,rfl,hc⟩:=hp;exact⟨key,none,mkR φ,p', [],.nilFunc,by rw[hF,hq,hpl],rfl,hclose φ p' w' hc,hst φ,hfm φ,rfl,fun _ h=>by cases h⟩
end
theorem rowE_last{α:Type}{T:TypeId}{n:Nat}{C:α→Array Value}{v:Value}{l:List α}{x y:α}(h:C x=C y):rowE T n C v (l++[x])=rowE T n C v (l++[y]):=by
 unfold rowE;simp[h]
def FormC(f:Fm):Prop:=∀(g B b k:Nat) (w0 w:World) (r:Rt) (K:Kept) (kb:Bool) (p:Ps) (fv:Value),BW g B w0 r K (187,kb) b p w→FmV f g r K fv→EnvA B w0→p.short→RtI k r.plain→k≤1000000 →
 ∃F pre cap,fv=.func (.func F) pre cap∧EG F∧Calls Tryz.prog F (pre++#[.pointer (some ⟨b,0,none⟩)]++cap) w (FormP f fv g B w0 r K (187,kb) b p w)
theorem btR_maps{r:Rt}{m0:List RMap}{m:RMap}(e:r.maps=m0++[m]):btR r=((btR r).take 14++(r.lists.map rP++m0.map rM))++rM m :: r.acls.map rA:=by
 have h:btR r=(btR r).take 14++(r.lists.map rP++(r.maps.map rM++r.acls.map rA)):=rfl
 conv=>lhs;rw[h,e]
 simp
theorem btR_acls{r:Rt}{m0:List AList}{m:AList}(e:r.acls=m0++[m]):btR r=((btR r).take 14++(r.lists.map rP++(r.maps.map rM++m0.map rA)))++rA m :: []:=by
 have h:btR r=(btR r).take 14++(r.lists.map rP++(r.maps.map rM++r.acls.map rA)):=rfl
 conv=>lhs;rw[h,e]
 simp
theorem iface_form:FormC .iface:=by
 intro g B b k w0 w r K kb p fv h hf he hs hr hk;obtain⟨gg,cap,l0,x,q,e1,e2,rfl,e4⟩:=hf;obtain⟨cur,hc,hclose⟩:=h.last (E:=72) (n:=12) (C:=If.C) (v:=r.ifsV) (l0:=l0) (x:=x) (gg:=gg) (cap:=cap) (K0:=[(q,.cells #[.pointer (some ⟨gg,l0.length*12,none⟩)] 211 (0,0))]) (pre:=(btR r).take 0) (post:=(btR r).drop 1) (by rw[←e1];rfl) e2 (by decide) (fun _=>rfl) (fun k hk=>by obtain rfl:=List.mem_singleton.1 hk;exact e4);refine⟨246,#[],#[.pointer (some ⟨q,0,none⟩)],rfl,enters_of Tryz.func246 (by kernel_rfl) rfl,?_⟩;refine(iface1_any q gg (l0.length*12) b B cur x kb p w hc (h.toBR.env he) hs).mono ?_;intro e w' hp;refine zGf (mkR:=fun φ=>{ r with ifs:=l0++[φ x] }) (fun _ _=>rfl) (fun φ p' w' hc' => hclose (φ x) p' w' _ hc' rfl rfl) (fun φ=>?_) (fun φ _=>⟨rfl,rfl,rfl,rfl,rfl,rfl⟩) (fun φ K0 hq=>ElV.stay hq rfl (by rw[e1];simp) (fun _ h=>h)) hp;show { r.plain with ifs:=lastF φ r.ifs }=_;rw[e1,zDb];rfl
theorem static_form:FormC .static:=by
 intro g B b k w0 w r K kb p fv h hf he hs hr hk;obtain⟨gg,cap,l0,x,q,e1,e2,rfl,e4⟩:=hf;obtain⟨cur,hc,hclose⟩:=h.last (E:=78) (n:=7) (C:=Sr.C) (v:=r.statV) (l0:=l0) (x:=x) (gg:=gg) (cap:=cap) (K0:=[(q,.cells #[.pointer (some ⟨gg,l0.length*7,none⟩)] 227 (0,0))]) (pre:=(btR r).take 2) (post:=(btR r).drop 3) (by rw[←e1];rfl) e2 (by decide) (fun _=>rfl) (fun k hk=>by obtain rfl:=List.mem_singleton.1 hk;exact e4);refine⟨255,#[],#[.pointer (some ⟨q,0,none⟩)],rfl,enters_of Tryz.func255 (by kernel_rfl) rfl,?_⟩;refine(static1_any q gg (l0.length*7) b B cur x kb p w hc (h.toBR.env he) hs).mono ?_;intro e w' hp;refine zGf (mkR:=fun φ=>{ r with stat:=l0++[φ x] }) (fun _ _=>rfl) (fun φ p' w' hc' => hclose (φ x) p' w' _ hc' rfl rfl) (fun φ=>?_) (fun φ _=>⟨rfl,rfl,rfl,rfl,rfl,rfl⟩) (fun φ K0 hq=>ElV.stay hq rfl (by rw[e1];simp) (fun _ h=>h)) hp;show { r.plain with stat:=lastF φ r.stat }=_;rw[e1,zDb];rfl
theorem neighbor_form:FormC .neighbor:=by
 intro g B b k w0 w r K kb p fv h hf he hs hr hk;obtain⟨gg,cap,l0,x,q,e1,e2,rfl,e4⟩:=hf;obtain⟨cur,hc,hclose⟩:=h.last (E:=149) (n:=4) (C:=Nb.C) (v:=r.nbV) (l0:=l0) (x:=x) (gg:=gg) (cap:=cap) (K0:=[(q,.cells #[.pointer (some ⟨gg,l0.length*4,none⟩)] 272 (0,0))]) (pre:=(btR r).take 6) (post:=(btR r).drop 7) (by rw[←e1];rfl) e2 (by decide) (fun _=>rfl) (fun k hk=>by obtain rfl:=List.mem_singleton.1 hk;exact e4);refine⟨259,#[],#[.pointer (some ⟨q,0,none⟩)],rfl,enters_of Tryz.func259 (by kernel_rfl) rfl,?_⟩;refine(neighbor1_any q gg (l0.length*4) b B cur x kb p w hc (h.toBR.env he) hs).mono ?_;intro e w' hp;refine zGf (mkR:=fun φ=>{ r with nb:=l0++[φ x] }) (fun _ _=>rfl) (fun φ p' w' hc' => hclose (φ x) p' w' _ hc' rfl rfl) (fun φ=>?_) (fun φ _=>⟨rfl,rfl,rfl,rfl,rfl,rfl⟩) (fun φ K0 hq=>ElV.stay hq rfl (by rw[e1];simp) (fun _ h=>h)) hp;show { r.plain with nb:=lastF φ r.nb }=_;rw[e1,zDb];rfl
theorem rule_form:FormC .rule:=by
 intro g B b k w0 w r K kb p fv h hf he hs hr hk;obtain⟨m0,m,em,gg,cap,l0,x,q,e1,e2,rfl,e4⟩:=hf;have ep:=btR_acls em;have hrow:rA m=rowE 144 10 Ru.C m.v (l0++[x]):=by rw[←e1];rfl
 rw[hrow]at ep;obtain⟨cur,hc,hclose⟩:=h.last (E:=144) (n:=10) (C:=Ru.C) (v:=m.v) (l0:=l0) (x:=x) (gg:=gg) (cap:=cap) (K0:=[(q,.cells #[.pointer (some ⟨gg,l0.length*10,none⟩)] 218 (0,0))]) ep e2 (by decide) (fun _=>rfl) (fun k hk=>by obtain rfl:=List.mem_singleton.1 hk;exact e4);refine⟨250,#[],#[.pointer (some ⟨q,0,none⟩)],rfl,enters_of Tryz.func250 (by kernel_rfl) rfl,?_⟩;refine(rule1_any q gg (l0.length*10) b B cur x kb p w hc (h.toBR.env he) hs).mono ?_;intro e w' hp
 have hbt:∀φ:Ru→Ru,btR { r with acls:=m0++[⟨m.name,m.v,l0++[φ x]⟩] }=((btR r).take 14++(r.lists.map rP++(r.maps.map rM++m0.map rA)))++rowE 144 10 Ru.C m.v (l0++[φ x]) :: []:=by
  intro φ;have q1:=btR_acls (r:={ r with acls:=m0++[⟨m.name,m.v,l0++[φ x]⟩] }) (m0:=m0) (m:=⟨m.name,m.v,l0++[φ x]⟩) rfl;rw[q1]
  have q2:(btR { r with acls:=m0++[⟨m.name,m.v,l0++[φ x]⟩] }).take 14=(btR r).take 14:=by
   have q3:rowE 87 2 AList.C r.aclsV (m0++[⟨m.name,m.v,l0++[φ x]⟩])=rowE 87 2 AList.C r.aclsV r.acls:=by rw[em];exact rowE_last rfl
   simp only[btR,List.take_succ_cons,List.take_zero,q3]
  rw[q2];rfl
 refine zGf (mkR:=fun φ=>{ r with acls:=m0++[⟨m.name,m.v,l0++[φ x]⟩] }) (fun _ _=>rfl) (fun φ p' w' hc' => hclose (φ x) p' w' _ hc' rfl (hbt φ)) (fun φ=>?_) (fun φ _=>⟨rfl,rfl,rfl,rfl,rfl,(by rw[em];simp)⟩) (fun φ K0 hq=>?_) hp
 ·show { r.plain with acls:=lastF (fun y=>{ y with rules:=lastF φ y.rules }) (r.acls.map fun x:AList=>⟨x.name,.slice none 0 0,x.rules⟩) }={ r.plain with acls:=(m0++[(⟨m.name,m.v,l0++[φ x]⟩:AList)]).map fun x:AList=>⟨x.name,.slice none 0 0,x.rules⟩ }
  simp only[em,e1,List.map_append,List.map_cons,List.map_nil,zDb]
 ·obtain⟨m1,m2,em', hq⟩:=hq
  rw[em]at em';obtain⟨rfl,e5⟩:=List.append_inj' em' rfl;injection e5 with e5 _
  subst e5;exact⟨m0,_,rfl,ElV.stay hq rfl (by rw[e1];simp) (fun _ h=>h)⟩
theorem zFk(a b:List UInt8):str a++⟨#[32]⟩++str b=str (nmK a b):=by
 apply ByteArray.ext;simp[str,nmK,ByteArray.data_append]
theorem clause1_any(k g o b B:Nat)(cur:Array Value)(x:Cl)(kb:Bool)(p:Ps)(w:World)(h:Ck 138 g o cur (187,kb) b B [(k,.cells #[.pointer (some ⟨g,o,none⟩)] 216 (0,0))] w x.C p w)(he:EnvA B w)(hs:p.short) :
  Calls Tryz.prog 249 #[.pointer (some ⟨b,0,none⟩),.pointer (some ⟨k,0,none⟩)] w (FPost zCz clF Cl.C x 138 g o cur (187,kb) b B [(k,.cells #[.pointer (some ⟨g,o,none⟩)] 216 (0,0))] w p):=by
 have H:=hid h;have HE:=hid he;have HS:=hid hs;have HKG:k≠g:=(H.out.keep _ List.mem_cons_self).2.1;clear h he hs;have q0:=wq (wV p) [97,99,99,101,112,116];have q1:=wq (wV p) [114,101,106,101,99,116];have s1:=zCr HS.out;have s2:=zCr (zBs HS.out);have ret_nmK:Ending.returned (.tuple #[.string (str (wV p)++⟨#[32]⟩++str (wV (wS p))),.nilFunc])=.returned (.tuple #[strV (nmK (wV p) (wV (wS p))),.nilFunc]):=by rw[zFk];rfl
 go_enter Tryz.func249,Tryz.ntmps249;go_wp2_with fail;refine(zCa b B p _ H.out.st).mono ?_;rintro e w1 ⟨rfl,h1,k1⟩;have H1:=hid (H.out.word h1 k1);clear h1 k1;unfold strV;cases e0:(wV p==[97,99,99,101,112,116])with
 |true=>
  rw[e0]at q0;have E:Hid (∀r,zCz r p=([97,99,116,105,111,110],none,clF (fun x=>{ x with permit:=true }) r,wS p)):=hid (fun r=>by unfold zCz;rw[if_pos (by rw[e0];rfl),e0]);have fz:=H1.out.frz;have ck:=H1.out.kc;obtain⟨y0,c0⟩:=H1.out.cell (j:=0) (show 0<7 from by decide);have fz0:=H1.out.frz 0;rw[Nat.add_zero]at c0 fz0;go_wp2_with fail;go_ret2;exact⟨_,fun x=>{ x with permit:=true },_,E.out,rfl,(H1.out.put (j:=0) (show 0<7 from by decide) _ rfl)⟩
 |false=>
  rw[e0]at q0;cases e1:(wV p==[114,101,106,101,99,116])with
  |true=>
   rw[e1]at q1;have E:Hid (∀r,zCz r p=([97,99,116,105,111,110],none,clF (fun x=>{ x with permit:=false }) r,wS p)):=hid (fun r=>by unfold zCz;rw[if_pos (by rw[e1,Bool.or_true]),e0]);have fz:=H1.out.frz;have ck:=H1.out.kc;obtain⟨y0,c0⟩:=H1.out.cell (j:=0) (show 0<7 from by decide);have fz0:=H1.out.frz 0;rw[Nat.add_zero]at c0 fz0;go_wp2_with fail;go_ret2;exact⟨_,fun x=>{ x with permit:=false },_,E.out,rfl,(H1.out.put (j:=0) (show 0<7 from by decide) _ rfl)⟩
  |false=>
   rw[e1]at q1;have fz:=H1.out.frz;have ck:=H1.out.kc;go_wp2_with fail;clear fz ck;refine(zCa b B (wS p) _ H1.out.st).mono ?_;rintro e w2 ⟨rfl,h2,k2⟩;have H2:=hid (H1.out.word h2 k2);clear h2 k2;unfold strV;have r0:((str (wV p)++⟨#[32]⟩++str (wV (wS p))).toList==[102,114,111,109,32,108,105,115,116])=(nmK (wV p) (wV (wS p))==[102,114,111,109,32,108,105,115,116]):=by rw[zFk,zAh]
   have r1:((str (wV p)++⟨#[32]⟩++str (wV (wS p))).toList==[102,114,111,109,32,116,97,103])=(nmK (wV p) (wV (wS p))==[102,114,111,109,32,116,97,103]):=by rw[zFk,zAh]
   have r2:((str (wV p)++⟨#[32]⟩++str (wV (wS p))).toList==[116,104,101,110,32,109,101,116,114,105,99])=(nmK (wV p) (wV (wS p))==[116,104,101,110,32,109,101,116,114,105,99]):=by rw[zFk,zAh]
   have r3:((str (wV p)++⟨#[32]⟩++str (wV (wS p))).toList==[116,104,101,110,32,116,97,103])=(nmK (wV p) (wV (wS p))==[116,104,101,110,32,116,97,103]):=by rw[zFk,zAh]
   have r4:((str (wV p)++⟨#[32]⟩++str (wV (wS p))).toList==[116,104,101,110,32,112,114,101,102,101,114,101,110,99,101])=(nmK (wV p) (wV (wS p))==[116,104,101,110,32,112,114,101,102,101,114,101,110,99,101]):=by rw[zFk,zAh]
   have r5:((str (wV p)++⟨#[32]⟩++str (wV (wS p))).toList==[116,104,101,110,32,112,114,101,112,101,110,100])=(nmK (wV p) (wV (wS p))==[116,104,101,110,32,112,114,101,112,101,110,100]):=by rw[zFk,zAh]
   cases f0:(nmK (wV p) (wV (wS p))==[102,114,111,109,32,108,105,115,116])with
   |true=>
    rw[f0]at r0;have E:Hid (∀r,zCz r p=(nmK (wV p) (wV (wS p)),none,clF (fun x=>{ x with list:=nmV (wS (wS p)) }) r,nmS (wS (wS p)))):=hid (fun r=>by unfold zCz;rw[if_neg (by rw[e0,e1];decide)];dsimp only;rw[f0];rfl);have fz:=H2.out.frz;have ck:=H2.out.kc;go_wp2_with fail;have D3:=hid H2.out.drew;clear fz ck;go_region_held3 (fun w' => w'.cell? ⟨k,0,none⟩=some (.pointer (some ⟨g,o,none⟩))) (first|assumption|with_reducible exact D3.out.kc|with_reducible exact H3.out.kc|((repeat with_reducible refine zAw HKG ?_);first|assumption|with_reducible exact H3.out.kc)) (((with_reducible refine(zCx b B (wS (wS p)) _ D3.out.st).mono ?_);rintro e w3 ⟨rfl,h3,k3⟩;have H3:=hid (D3.out.word h3 k3);clear h3 k3;unfold strV;have fz:=H3.out.frz;obtain⟨y1,c1⟩:=H3.out.cell (j:=1) (show 1<7 from by decide)));go_wp2_with fail;go_ret2;exact⟨_,fun x=>{ x with list:=nmV (wS (wS p)) },_,E.out,ret_nmK,(H3.out.put (j:=1) (show 1<7 from by decide) _ rfl)⟩
   |false=>
    rw[f0]at r0;cases f1:(nmK (wV p) (wV (wS p))==[102,114,111,109,32,116,97,103])with
    |true=>
     rw[f1]at r1;have E:Hid (∀r,zCz r p=(nmK (wV p) (wV (wS p)),none,clF (fun x=>{ x with tag:=noV 0 65535 (wS (wS p)) }) r,noS 0 65535 (wS (wS p)))):=hid (fun r=>by unfold zCz;rw[if_neg (by rw[e0,e1];decide)];dsimp only;rw[f0,f1];rfl);have fz:=H2.out.frz;have ck:=H2.out.kc;go_wp2_with fail;have D3:=hid H2.out.drew;clear fz ck;go_region_held3 (fun w' => w'.cell? ⟨k,0,none⟩=some (.pointer (some ⟨g,o,none⟩))) (first|assumption|with_reducible exact D3.out.kc|with_reducible exact H3.out.kc|((repeat with_reducible refine zAw HKG ?_);first|assumption|with_reducible exact H3.out.kc)) (((with_reducible refine(zAs b B (wS (wS p)) 0 65535 _ D3.out.st).mono ?_);rintro e w3 ⟨rfl,h3,k3⟩;have H3:=hid (D3.out.word h3 k3);clear h3 k3;have fz:=H3.out.frz;obtain⟨y2,c2⟩:=H3.out.cell (j:=2) (show 2<7 from by decide)));go_wp2_with fail;go_ret2;exact⟨_,fun x=>{ x with tag:=noV 0 65535 (wS (wS p)) },_,E.out,ret_nmK,(H3.out.put (j:=2) (show 2<7 from by decide) _ rfl)⟩
    |false=>
     rw[f1]at r1;cases f2:(nmK (wV p) (wV (wS p))==[116,104,101,110,32,109,101,116,114,105,99])with
     |true=>
      rw[f2]at r2;have E:Hid (∀r,zCz r p=(nmK (wV p) (wV (wS p)),none,clF (fun x=>{ x with setM:=noV 0 16777215 (wS (wS p)) }) r,noS 0 16777215 (wS (wS p)))):=hid (fun r=>by unfold zCz;rw[if_neg (by rw[e0,e1];decide)];dsimp only;rw[f0,f1,f2];rfl);have fz:=H2.out.frz;have ck:=H2.out.kc;go_wp2_with fail;have D3:=hid H2.out.drew;clear fz ck;go_region_held3 (fun w' => w'.cell? ⟨k,0,none⟩=some (.pointer (some ⟨g,o,none⟩))) (first|assumption|with_reducible exact D3.out.kc|with_reducible exact H3.out.kc|((repeat with_reducible refine zAw HKG ?_);first|assumption|with_reducible exact H3.out.kc)) (((with_reducible refine(zAs b B (wS (wS p)) 0 16777215 _ D3.out.st).mono ?_);rintro e w3 ⟨rfl,h3,k3⟩;have H3:=hid (D3.out.word h3 k3);clear h3 k3;have fz:=H3.out.frz;obtain⟨y3,c3⟩:=H3.out.cell (j:=3) (show 3<7 from by decide)));go_wp2_with fail;go_ret2;exact⟨_,fun x=>{ x with setM:=noV 0 16777215 (wS (wS p)) },_,E.out,ret_nmK,(H3.out.put (j:=3) (show 3<7 from by decide) _ rfl)⟩
     |false=>
      rw[f2]at r2;cases f3:(nmK (wV p) (wV (wS p))==[116,104,101,110,32,116,97,103])with
      |true=>
       rw[f3]at r3;have E:Hid (∀r,zCz r p=(nmK (wV p) (wV (wS p)),none,clF (fun x=>{ x with setT:=noV 0 65535 (wS (wS p)) }) r,noS 0 65535 (wS (wS p)))):=hid (fun r=>by unfold zCz;rw[if_neg (by rw[e0,e1];decide)];dsimp only;rw[f0,f1,f2,f3];rfl);have fz:=H2.out.frz;have ck:=H2.out.kc;go_wp2_with fail;have D3:=hid H2.out.drew;clear fz ck;go_region_held3 (fun w' => w'.cell? ⟨k,0,none⟩=some (.pointer (some ⟨g,o,none⟩))) (first|assumption|with_reducible exact D3.out.kc|with_reducible exact H3.out.kc|((repeat with_reducible refine zAw HKG ?_);first|assumption|with_reducible exact H3.out.kc)) (((with_reducible refine(zAs b B (wS (wS p)) 0 65535 _ D3.out.st).mono ?_);rintro e w3 ⟨rfl,h3,k3⟩;have H3:=hid (D3.out.word h3 k3);clear h3 k3;have fz:=H3.out.frz;obtain⟨y4,c4⟩:=H3.out.cell (j:=4) (show 4<7 from by decide)));go_wp2_with fail;go_ret2;exact⟨_,fun x=>{ x with setT:=noV 0 65535 (wS (wS p)) },_,E.out,ret_nmK,(H3.out.put (j:=4) (show 4<7 from by decide) _ rfl)⟩
      |false=>
       rw[f3]at r3;cases f4:(nmK (wV p) (wV (wS p))==[116,104,101,110,32,112,114,101,102,101,114,101,110,99,101])with
       |true=>
        rw[f4]at r4;have E:Hid (∀r,zCz r p=(nmK (wV p) (wV (wS p)),none,clF (fun x=>{ x with setP:=noV 0 1000000 (wS (wS p)) }) r,noS 0 1000000 (wS (wS p)))):=hid (fun r=>by unfold zCz;rw[if_neg (by rw[e0,e1];decide)];dsimp only;rw[f0,f1,f2,f3,f4];rfl);have fz:=H2.out.frz;have ck:=H2.out.kc;go_wp2_with fail;have D3:=hid H2.out.drew;clear fz ck;go_region_held3 (fun w' => w'.cell? ⟨k,0,none⟩=some (.pointer (some ⟨g,o,none⟩))) (first|assumption|with_reducible exact D3.out.kc|with_reducible exact H3.out.kc|((repeat with_reducible refine zAw HKG ?_);first|assumption|with_reducible exact H3.out.kc)) (((with_reducible refine(zAs b B (wS (wS p)) 0 1000000 _ D3.out.st).mono ?_);rintro e w3 ⟨rfl,h3,k3⟩;have H3:=hid (D3.out.word h3 k3);clear h3 k3;have fz:=H3.out.frz;obtain⟨y5,c5⟩:=H3.out.cell (j:=5) (show 5<7 from by decide)));go_wp2_with fail;go_ret2;exact⟨_,fun x=>{ x with setP:=noV 0 1000000 (wS (wS p)) },_,E.out,ret_nmK,(H3.out.put (j:=5) (show 5<7 from by decide) _ rfl)⟩
       |false=>
        rw[f4]at r4;cases f5:(nmK (wV p) (wV (wS p))==[116,104,101,110,32,112,114,101,112,101,110,100])with
        |true=>
         rw[f5]at r5;have E:Hid (∀r,zCz r p=(nmK (wV p) (wV (wS p)),none,clF (fun x=>{ x with prep:=noV 0 8 (wS (wS p)) }) r,noS 0 8 (wS (wS p)))):=hid (fun r=>by unfold zCz;rw[if_neg (by rw[e0,e1];decide)];dsimp only;rw[f0,f1,f2,f3,f4,f5];rfl);have fz:=H2.out.frz;have ck:=H2.out.kc;go_wp2_with fail;have D3:=hid H2.out.drew;clear fz ck;go_region_held3 (fun w' => w'.cell? ⟨k,0,none⟩=some (.pointer (some ⟨g,o,none⟩))) (first|assumption|with_reducible exact D3.out.kc|with_reducible exact H3.out.kc|((repeat with_reducible refine zAw HKG ?_);first|assumption|with_reducible exact H3.out.kc)) (((with_reducible refine(zAs b B (wS (wS p)) 0 8 _ D3.out.st).mono ?_);rintro e w3 ⟨rfl,h3,k3⟩;have H3:=hid (D3.out.word h3 k3);clear h3 k3;have fz:=H3.out.frz;obtain⟨y6,c6⟩:=H3.out.cell (j:=6) (show 6<7 from by decide)));go_wp2_with fail;go_ret2;exact⟨_,fun x=>{ x with prep:=noV 0 8 (wS (wS p)) },_,E.out,ret_nmK,(H3.out.put (j:=6) (show 6<7 from by decide) _ rfl)⟩
        |false=>
         rw[f5]at r5;have E:Hid (∀r,zCz r p=(nmK (wV p) (wV (wS p)),none,clF (fun x=>x) r,(wS (wS p)).fail)):=hid (fun r=>by rw[clF_id];unfold zCz;rw[if_neg (by rw[e0,e1];decide)];dsimp only;rw[f0,f1,f2,f3,f4,f5];rfl);have fz:=H2.out.frz;have ck:=H2.out.kc;have fb:=H2.out.st.frz 2;have cb:=H2.out.st.bad1;go_wp2_with fail;go_ret2;exact⟨_,fun x=>x,_,E.out,ret_nmK,H2.out.bad⟩
theorem zJt(mk:(Rd→Rd)→Rt→Rt)(hmk:∀r,mk (fun x=>x) r=r)(typed:Bool)(k kt g o b B:Nat)(cur:Array Value)(x:Rd)(kb:Bool)(p:Ps)(w:World)(h:Ck 230 g o cur (187,kb) b B [(k,.cells #[.pointer (some ⟨g,o,none⟩)] 301 (0,0)),(kt,.cells #[.bool typed] 4 (0,0))] w x.C p w)(he:EnvA B w)(hs:p.short) :
  Calls Tryz.prog 273 #[.pointer (some ⟨b,0,none⟩),.pointer (some ⟨k,0,none⟩),.pointer (some ⟨kt,0,none⟩)] w (FPost (redF' typed mk) mk Rd.C x 230 g o cur (187,kb) b B [(k,.cells #[.pointer (some ⟨g,o,none⟩)] 301 (0,0)),(kt,.cells #[.bool typed] 4 (0,0))] w p):=by
 have H:=hid h;have HE:=hid he;have HS:=hid hs;have HKG:k≠g:=(H.out.keep _ List.mem_cons_self).2.1;clear h he hs;have q0:=wq (wV p) [109,101,116,114,105,99];have q1:=wq (wV p) [116,97,103];have q2:=wq (wV p) [112,111,108,105,99,121];have q3:=wq (wV p) [116,121,112,101];go_enter Tryz.func273,Tryz.ntmps273;go_wp2_with fail;refine(zCa b B p _ H.out.st).mono ?_;rintro e w1 ⟨rfl,h1,k1⟩;have H1:=hid (H.out.word h1 k1);clear h1 k1;unfold strV;cases e0:(wV p==[109,101,116,114,105,99])with
 |true=>
  rw[e0]at q0;have E:Hid (∀r,(redF' typed mk) r p=(wV p,none,mk (fun x=>{ x with metric:=noV 0 16777215 (wS p) }) r,noS 0 16777215 (wS p))):=hid (fun r=>by unfold redF';rw[e0];rfl);have fz:=H1.out.frz;have ck:=H1.out.kc;have ck2:=H1.out.kc2;go_wp2_with fail;have D2:=hid H1.out.drew;clear fz ck ck2;go_region_held3 (fun w' => w'.cell? ⟨k,0,none⟩=some (.pointer (some ⟨g,o,none⟩))) (first|assumption|with_reducible exact D2.out.kc|with_reducible exact H2.out.kc|((repeat with_reducible refine zAw HKG ?_);first|assumption|with_reducible exact H2.out.kc)) (((with_reducible refine(zAs b B (wS p) 0 16777215 _ D2.out.st).mono ?_);rintro e w2 ⟨rfl,h2,k2⟩;have H2:=hid (D2.out.word h2 k2);clear h2 k2;have fz:=H2.out.frz;obtain⟨y1,c1⟩:=H2.out.cell (j:=1) (show 1<5 from by decide)));go_wp2_with fail;go_ret2;exact⟨_,fun x=>{ x with metric:=noV 0 16777215 (wS p) },_,E.out,rfl,(H2.out.put (j:=1) (show 1<5 from by decide) _ rfl)⟩
 |false=>
  rw[e0]at q0;cases e1:(wV p==[116,97,103])with
  |true=>
   rw[e1]at q1;have E:Hid (∀r,(redF' typed mk) r p=(wV p,none,mk (fun x=>{ x with tag:=noV 0 65535 (wS p) }) r,noS 0 65535 (wS p))):=hid (fun r=>by unfold redF';rw[e0,e1];rfl);have fz:=H1.out.frz;have ck:=H1.out.kc;have ck2:=H1.out.kc2;go_wp2_with fail;have D2:=hid H1.out.drew;clear fz ck ck2;go_region_held3 (fun w' => w'.cell? ⟨k,0,none⟩=some (.pointer (some ⟨g,o,none⟩))) (first|assumption|with_reducible exact D2.out.kc|with_reducible exact H2.out.kc|((repeat with_reducible refine zAw HKG ?_);first|assumption|with_reducible exact H2.out.kc)) (((with_reducible refine(zAs b B (wS p) 0 65535 _ D2.out.st).mono ?_);rintro e w2 ⟨rfl,h2,k2⟩;have H2:=hid (D2.out.word h2 k2);clear h2 k2;have fz:=H2.out.frz;obtain⟨y2,c2⟩:=H2.out.cell (j:=2) (show 2<5 from by decide)));go_wp2_with fail;go_ret2;exact⟨_,fun x=>{ x with tag:=noV 0 65535 (wS p) },_,E.out,rfl,(H2.out.put (j:=2) (show 2<5 from by decide) _ rfl)⟩
  |false=>
   rw[e1]at q1;cases e2:(wV p==[112,111,108,105,99,121])with
   |true=>
    rw[e2]at q2;have E:Hid (∀r,(redF' typed mk) r p=(wV p,none,mk (fun x=>{ x with map:=nmV (wS p) }) r,nmS (wS p))):=hid (fun r=>by unfold redF';rw[e0,e1,e2];rfl);have fz:=H1.out.frz;have ck:=H1.out.kc;have ck2:=H1.out.kc2;go_wp2_with fail;have D2:=hid H1.out.drew;clear fz ck ck2;go_region_held3 (fun w' => w'.cell? ⟨k,0,none⟩=some (.pointer (some ⟨g,o,none⟩))) (first|assumption|with_reducible exact D2.out.kc|with_reducible exact H2.out.kc|((repeat with_reducible refine zAw HKG ?_);first|assumption|with_reducible exact H2.out.kc)) (((with_reducible refine(zCx b B (wS p) _ D2.out.st).mono ?_);rintro e w2 ⟨rfl,h2,k2⟩;have H2:=hid (D2.out.word h2 k2);clear h2 k2;unfold strV;have fz:=H2.out.frz;obtain⟨y3,c3⟩:=H2.out.cell (j:=3) (show 3<5 from by decide)));go_wp2_with fail;go_ret2;exact⟨_,fun x=>{ x with map:=nmV (wS p) },_,E.out,rfl,(H2.out.put (j:=3) (show 3<5 from by decide) _ rfl)⟩
   |false=>
    rw[e2]at q2;cases e3:(wV p==[116,121,112,101])with
    |true=>
     rw[e3]at q3;cases typed with
     |true=>
      have E:Hid (∀r,(redF' true mk) r p=(wV p,none,mk (fun x=>{ x with typ:=noV 1 2 (wS p) }) r,noS 1 2 (wS p))):=hid (fun r=>by unfold redF';rw[e0,e1,e2,e3];rfl);have fz:=H1.out.frz;have ck:=H1.out.kc;have ck2:=H1.out.kc2;go_wp2_with fail;have D2:=hid H1.out.drew;clear fz ck ck2;go_region_held3 (fun w' => w'.cell? ⟨k,0,none⟩=some (.pointer (some ⟨g,o,none⟩))) (first|assumption|with_reducible exact D2.out.kc|with_reducible exact H2.out.kc|((repeat with_reducible refine zAw HKG ?_);first|assumption|with_reducible exact H2.out.kc)) (((with_reducible refine(zAs b B (wS p) 1 2 _ D2.out.st).mono ?_);rintro e w2 ⟨rfl,h2,k2⟩;have H2:=hid (D2.out.word h2 k2);clear h2 k2;have fz:=H2.out.frz;obtain⟨y4,c4⟩:=H2.out.cell (j:=4) (show 4<5 from by decide)));go_wp2_with fail;go_ret2;exact⟨_,fun x=>{ x with typ:=noV 1 2 (wS p) },_,E.out,rfl,(H2.out.put (j:=4) (show 4<5 from by decide) _ rfl)⟩
     |false=>
      have E:Hid (∀r,(redF' false mk) r p=(wV p,none,mk (fun x=>x) r,(wS p).fail)):=hid (fun r=>by rw[hmk];unfold redF';rw[e0,e1,e2,e3];rfl);have fz:=H1.out.frz;have ck:=H1.out.kc;have ck2:=H1.out.kc2;have fb:=H1.out.st.frz 2;have cb:=H1.out.st.bad1;go_wp2_with fail;go_ret2;exact⟨_,fun x=>x,_,E.out,rfl,H1.out.bad⟩
    |false=>
     rw[e3]at q3;have E:Hid (∀r,(redF' typed mk) r p=(wV p,none,mk (fun x=>x) r,(wS p).fail)):=hid (fun r=>by rw[hmk];unfold redF';rw[e0,e1,e2,e3];rfl);have fz:=H1.out.frz;have ck:=H1.out.kc;have ck2:=H1.out.kc2;have fb:=H1.out.st.frz 2;have cb:=H1.out.st.bad1;go_wp2_with fail;go_ret2;exact⟨_,fun x=>x,_,E.out,rfl,H1.out.bad⟩
end Go.Proofs.YtdlgnhefpoalnaaGreatDoor
