/- Beta: what read keeps between nodes: the reader, the map of keys, the words of one node; keys are short. No condition. -/
import Derived.Test.YtdlgnhefpoalnaaGreatDoorLv
import Derived.Test.YtdlgnhefpoalnaaGreatDoorLx
import Derived.Test.YtdlgnhefpoalnaaGreatDoorLu
namespace Go.Proofs.YtdlgnhefpoalnaaGreatDoor
open Lib (hid)
open Go.RowKit
def WdS(w:World)(S:Nat→Prop)(v:Value)(ws:List (List UInt8)):Prop :=
 ∃A c,v=.slice A ws.length c∧ws.length≤c∧ws.length≤maxLen∧(A=none→c=0)∧(0<ws.length→∃g,A=some ⟨g,0,none⟩∧S g∧g<w.heap.size∧w.rangeAt g 0 (ws.map strV))
mutual
def NdC(w:World)(S:Nat→Prop):Nd→List Value→Prop
 |.mk line ws blk kids,cs=>∃wv kv,cs=[.int .i64 line,wv,.bool blk,kv]∧WdS w S wv ws∧∃A c,kv=.slice A kids.length c∧kids.length≤c∧kids.length≤maxLen∧(0<kids.length→∃g css,A=some ⟨g,0,none⟩∧S g∧g<w.heap.size∧w.rangeAt g 0 css∧NdsC w S kids css)
def NdsC(w:World)(S:Nat→Prop):List Nd→List Value→Prop
 |[],css=>css=[]
 |n :: r,css=>∃cs rest,css=cs++rest∧NdC w S n cs∧NdsC w S r rest
end
def NdV(w:World)(S:Nat→Prop)(v:Value)(ns:List Nd):Prop :=
 ∃A c,v=.slice A ns.length c∧ns.length≤c∧ns.length≤maxLen∧(0<ns.length→∃g css,A=some ⟨g,0,none⟩∧S g∧g<w.heap.size∧w.rangeAt g 0 css∧NdsC w S ns css)
section
variable {w w' : World} {S S' : Nat → Prop}
theorem NdC.iff{line:Int}{ws:List (List UInt8)}{blk:Bool}{kids:List Nd}{cs:List Value}:NdC w S (.mk line ws blk kids) cs↔∃wv kv,cs=[.int .i64 line,wv,.bool blk,kv]∧WdS w S wv ws∧NdV w S kv kids:=by
 rw[NdC];rfl
theorem zIf{g o:Nat}{xs:List Value}(h:w.rangeAt g o xs)(hb:w'.heap[g]? = w.heap[g]?):w'.rangeAt g o xs:=by
 intro j v hv;have:=h j v hv;unfold World.cell? at this⊢;simp only at this⊢;rw[hb];exact this
theorem WdS.frame{v:Value}{ws:List (List UInt8)}(h:WdS w S v ws)(hs:∀k,S k→k<w.heap.size→S' k∧w'.heap[k]? = w.heap[k]?)(hz:w.heap.size≤w'.heap.size):WdS w' S' v ws:=by
 obtain⟨A,c,e,h1,h2,hc,h3⟩:=h;refine⟨A,c,e,h1,h2,hc,fun h0=>?_⟩;obtain⟨g,e1,hg,hl,hr⟩:=h3 h0;obtain⟨q1,q2⟩:=hs g hg hl;exact⟨g,e1,q1,by omega,zIf hr q2⟩
mutual
theorem NdC.frame(hs:∀k,S k→k<w.heap.size→S' k∧w'.heap[k]? = w.heap[k]?)(hz:w.heap.size≤w'.heap.size):∀(n:Nd) (cs:List Value),NdC w S n cs→NdC w' S' n cs
 |.mk line ws blk kids,cs,h=>by
  rw[NdC]at h⊢;obtain⟨wv,kv,e,hw,A,c,e1,h1,h2,h3⟩:=h;refine⟨wv,kv,e,hw.frame hs hz,A,c,e1,h1,h2,fun h0=>?_⟩;obtain⟨g,css,e2,hg,hl,hr,hn⟩:=h3 h0;obtain⟨q1,q2⟩:=hs g hg hl;exact⟨g,css,e2,q1,by omega,zIf hr q2,NdsC.frame hs hz kids css hn⟩
theorem NdsC.frame(hs:∀k,S k→k<w.heap.size→S' k∧w'.heap[k]? = w.heap[k]?)(hz:w.heap.size≤w'.heap.size):∀(ns:List Nd) (css:List Value),NdsC w S ns css→NdsC w' S' ns css
 |[],css,h=>by rw[NdsC]at h⊢;exact h
 |n :: r,css,h=>by
  rw[NdsC]at h⊢;obtain⟨cs,rest,e,h1,h2⟩:=h;exact⟨cs,rest,e,NdC.frame hs hz n cs h1,NdsC.frame hs hz r rest h2⟩
end
theorem NdV.frame{v:Value}{ns:List Nd}(h:NdV w S v ns)(hs:∀k,S k→k<w.heap.size→S' k∧w'.heap[k]? = w.heap[k]?)(hz:w.heap.size≤w'.heap.size):NdV w' S' v ns:=by
 obtain⟨A,c,e,h1,h2,h3⟩:=h;refine⟨A,c,e,h1,h2,fun h0=>?_⟩;obtain⟨g,css,e1,hg,hl,hr,hn⟩:=h3 h0;obtain⟨q1,q2⟩:=hs g hg hl;exact⟨g,css,e1,q1,by omega,zIf hr q2,NdsC.frame hs hz ns css hn⟩
theorem NdC.len:∀{n:Nd} {cs:List Value},NdC w S n cs→cs.length=4
 |.mk _ _ _ _,cs,h=>by rw[NdC]at h;obtain⟨wv,kv,rfl,-⟩:=h;rfl
theorem NdsC.snoc:∀{ns:List Nd} {css:List Value} {n:Nd} {cs:List Value},NdsC w S ns css→NdC w S n cs→NdsC w S (ns++[n]) (css++cs)
 |[],css,n,cs,h,h1=>by
  rw[NdsC]at h;subst h;rw[List.nil_append,List.nil_append,NdsC];exact⟨cs,[],by simp,h1,by rw[NdsC]⟩
 |m :: r,css,n,cs,h,h1=>by
  rw[NdsC]at h;obtain⟨c0,rest,rfl,h2,h3⟩:=h;rw[List.cons_append,NdsC];exact⟨c0,rest++cs,by rw[yE],h2,NdsC.snoc h3 h1⟩
theorem NdsC.get:∀{ns:List Nd} {css:List Value} (k:Nat) (hk:k<ns.length),NdsC w S ns css→∃cs,NdC w S ns[k] cs∧∀j,j<4→css[k*4+j]? = cs[j]?
 |n :: r,css,0,_,h=>by
  rw[NdsC]at h;obtain⟨cs,rest,rfl,h1,-⟩:=h;refine⟨cs,h1,fun j hj=>?_⟩;rw[Nat.zero_mul,Nat.zero_add,List.getElem?_append_left (by rw[h1.len];exact hj)]
 |n :: r,css,k+1,hk,h=>by
  rw[NdsC]at h;obtain⟨cs,rest,rfl,h1,h2⟩:=h;obtain⟨c2,h3,h4⟩:=NdsC.get k (by simpa using hk) h2;refine⟨c2,by simpa using h3,fun j hj=>?_⟩;rw[List.getElem?_append_right (by rw[h1.len];omega),h1.len,←h4 j hj]
  congr 1;omega
theorem NdV.nil:NdV w S (.slice none 0 0) []:=⟨none,0,rfl,yI _,Nat.zero_le _,fun h=>absurd h (Nat.lt_irrefl _)⟩
theorem NdV.at{v:Value}{ns:List Nd}(h:NdV w S v ns){k:Nat}(hk:k<ns.length):∃g c cs,v=.slice (some ⟨g,0,none⟩) ns.length c∧S g∧g<w.heap.size∧NdC w S ns[k] cs∧w.rangeAt g (k*4) cs:=by
 obtain⟨A,c,e,h1,h2,h3⟩:=h;obtain⟨g,css,rfl,hg,hl,hr,hn⟩:=h3 (by omega);obtain⟨cs,h4,h5⟩:=hn.get k hk;refine⟨g,c,cs,e,hg,hl,h4,fun j u hu=>?_⟩
 have hj:j<4:=by
  rcases Nat.lt_or_ge j 4 with h|h
  ·exact h
  ·rw[List.getElem?_eq_none (by rw[h4.len];exact h)]at hu;cases hu
 have:=hr (k*4+j) u (by rw[h5 j hj];exact hu)
 rwa [Nat.zero_add]at this
theorem WdS.slc{v:Value}{ws:List (List UInt8)}{B:Nat}(h:WdS w S v ws)(hS:∀k,S k→k<B):Slc w B 1 v ws.length (ws.map strV)∧∃A c,v=.slice A ws.length c∧ws.length≤c:=by
 obtain⟨A,c,rfl,h1,h2,hc,h3⟩:=h;refine⟨⟨A,c,rfl,h2,by simp,hc,fun h0=>?_⟩,A,c,rfl,h1⟩;obtain⟨g,e,hg,hl,hr⟩:=h3 h0;exact⟨g,0,e,hS g hg,fun j u hu=>hr j u hu⟩
theorem WdS.own{v:Value}{ws:List (List UInt8)}{B:Nat}{T:TypeId}(h:w.ownsRow B T 1 v ws.length (ws.map strV))(hS:∀k,v.ownBlock=some k→S k):WdS w S v ws:=by
 obtain⟨-,h⟩:=h;rcases h with⟨rfl,h0⟩|⟨g,cap,cur,rfl,h2,h3,h4,h5,h6,h7⟩
 ·exact⟨none,0,by rw[h0],by omega,by omega,fun _=>rfl,fun h=>absurd h (by omega)⟩
 ·refine⟨some ⟨g,0,none⟩,cap,rfl,h4,by omega,(fun e=>by cases e),fun _=>⟨g,rfl,hS g rfl,zBj h3,fun j u hu=>?_⟩⟩
  have hj:j<ws.length:=by
   rcases Nat.lt_or_ge j ws.length with h|h
   ·exact h
   ·rw[List.getElem?_eq_none (by simpa using h)]at hu;cases hu
  rw[Nat.zero_add,Lib.cell_of_heap h3];rw[←h7,List.getElem?_take_of_lt (by omega)]at hu;simpa using hu
theorem NdV.own{v:Value}{ns:List Nd}{css:List Value}{B:Nat}{T:TypeId}(h:w.ownsRow B T 4 v ns.length css)(hn:NdsC w S ns css)(hS:∀k,v.ownBlock=some k→S k):NdV w S v ns:=by
 obtain⟨hl,h⟩:=h;rcases h with⟨rfl,h0⟩|⟨g,cap,cur,rfl,h2,h3,h4,h5,h6,h7⟩
 ·exact⟨none,0,by rw[h0],by omega,by omega,fun h=>absurd h (by omega)⟩
 ·refine⟨some ⟨g,0,none⟩,cap,rfl,h4,by omega,fun _=>⟨g,css,rfl,hS g rfl,zBj h3,fun j u hu=>?_,hn⟩⟩
  have hj:j<css.length:=by
   rcases Nat.lt_or_ge j css.length with h|h
   ·exact h
   ·rw[List.getElem?_eq_none h]at hu;cases hu
  rw[Nat.zero_add,Lib.cell_of_heap h3];rw[←h7,List.getElem?_take_of_lt (by rw[←hl];exact hj)]at hu;simpa using hu
end
theorem KeyMap.blk{P:Program}{k e:TypeId}{b n:Nat}{ks:List (List UInt8)}{w w' : World}(h:KeyMap P k e b n ks w)(hb:w'.heap[b]? = w.heap[b]?):KeyMap P k e b n ks w' := by
 obtain⟨D,⟨es,c,h0,h1⟩,h2⟩:=h;exact⟨D,⟨es,c,hb.trans h0,h1⟩,h2⟩
theorem KeyMap.obj{P:Program}{k e:TypeId}{b n:Nat}{ks:List (List UInt8)}{w:World}(h:KeyMap P k e b n ks w):∃o,w.heap[b]? = some o:=by
 obtain⟨D,⟨es,c,h0,h1⟩,h2⟩:=h;exact⟨_,h0⟩
section
variable {g B b m : Nat} {w0 w w' : World} {r : Rt} {K : Kept} {o o' : Obj}
theorem BR.on(h:BR g B w0 r K w)(hb:Below w.heap.size w w'):BR g B w0 r K w' :=
 ⟨h.has.keep hb,h.own.below hb,h.bel.trans (hb.mono (yJ h.bB h.size)),h.bB,h.gB,h.gr,fun k hk=>by
  obtain⟨h1,h2,h3⟩:=h.keep k hk
  exact⟨(hb.block k.1 (zBj h1)).trans h1,h2,h3⟩⟩
theorem BR.box(h:BR g B w0 r K w)(hb:Below w.heap.size w w')(ho:w'.heap[m]? = some o)(hm:w.heap.size≤m):BR g B w0 r ((m,o) :: K) w' := by
 have h1:=h.on hb;refine⟨h1.has,h1.own,h1.bel,h1.bB,h1.gB,h1.gr,fun k hk=>?_⟩;rcases List.mem_cons.1 hk with rfl|hk
 ·exact⟨ho,fun e=>by have:=h.lt;omega,fun hx=>by have:=(h.blt hx).1;omega⟩
 ·exact h1.keep k hk
theorem BR.map(h:BR g B w0 r ((m,o) :: K) w)(hg:w.grownBy w' (some m))(ho:w'.heap[m]? = some o')(hB:B≤m)(hK:∀k∈K,k.1≠m):BR g B w0 r ((m,o') :: K) w' := by
 obtain⟨k1,k2,k3⟩:=h.keep (m,o) List.mem_cons_self;refine⟨h.has.grown hg (fun e=>k2 (by injection e with e;exact e.symm)),h.own.frame hg (fun g e=>by injection e with e;subst e;exact k3),h.bel.trans (zCd hg hB (yJ h.bB h.size)),h.bB,h.gB,h.gr,fun k hk=>?_⟩;rcases List.mem_cons.1 hk with rfl|hk
 ·exact⟨ho,k2,k3⟩
 ·obtain⟨h1,h2,h3⟩:=h.keep k (List.mem_cons_of_mem _ hk)
  exact⟨(hg.block k.1 (zBj h1) (fun e=>hK k hk (by injection e))).trans h1,h2,h3⟩
theorem BR.words{T:TypeId × Bool}{v:Value}{fs:List (List UInt8)}(h:BR g B w0 r K w)(hs:Slc w' B 1 v fs.length (fs.map strV))(hA:∃A c,v=.slice A fs.length c∧fs.length≤c)(hb:Below w.heap.size w w')
  (hh:HasC T.1 b #[v,.bool T.2,.bool false] w') (hl:w.heap.size≤b):BW g B w0 r K T b ⟨fs,false⟩ w' := by
 have h1:=h.on hb;have hbB:B≤b:=yJ (yJ h.bB h.size) hl;refine⟨h1,⟨hbB,v,hh,hs,hA⟩,fun e=>by have:=h.lt;omega,fun hx=>by have:=(h.blt hx).1;omega,fun k hk e=>by have:=zBj (h.keep k hk).1;omega⟩
theorem BR.at(h:BR g B w0 r K w){ks:List Nat}(hk:∀k∈ks,k<B)(hf:Fr ks w w'):r.at w' w'.heap.size:=by
 have ho:OwnAll w' B (btR r):=OwnAll.fr h.own hf (fun g hg hm=>by have:=(h.blt hg).2;have:=hk g hm;omega);have q:∀{α:Type} {E:TypeId} {n:Nat} {C:α→Array Value} {v:Value} {l:List α},rowE E n C v l∈btR r→SlV w' w'.heap.size n C v l:=fun hm=>OwnE.slv (ho.1 _ hm)
 have tl:∀o,o∈r.lists.map rP++(r.maps.map rM++r.acls.map rA)→o∈btR r:=fun o hm=>List.mem_append_right ((btR r).take 14) hm
 exact⟨q (List.mem_of_getElem? (i:=0) rfl),q (List.mem_of_getElem? (i:=11) rfl),fun x hx=>q (tl (rP x) (List.mem_append_left _ (List.mem_map.2 ⟨x,hx,rfl⟩))),
  q (List.mem_of_getElem? (i:=12) rfl),fun x hx=>q (tl (rM x) (List.mem_append_right _ (List.mem_append_left _ (List.mem_map.2 ⟨x,hx,rfl⟩)))),
  q (List.mem_of_getElem? (i:=13) rfl),fun x hx=>q (tl (rA x) (List.mem_append_right _ (List.mem_append_right _ (List.mem_map.2 ⟨x,hx,rfl⟩)))),
  q (List.mem_of_getElem? (i:=1) rfl),q (List.mem_of_getElem? (i:=2) rfl),q (List.mem_of_getElem? (i:=3) rfl),q (List.mem_of_getElem? (i:=4) rfl),q (List.mem_of_getElem? (i:=5) rfl),q (List.mem_of_getElem? (i:=6) rfl),
  q (List.mem_of_getElem? (i:=7) rfl),q (List.mem_of_getElem? (i:=8) rfl),q (List.mem_of_getElem? (i:=9) rfl),q (List.mem_of_getElem? (i:=10) rfl)⟩
end
theorem wV_le{p:Ps}(h:p.short):(wV p).length≤1000000000:=by
 obtain⟨fs,bad⟩:=p;cases fs with
 |nil=>exact Nat.zero_le _
 |cons f r=>exact h f List.mem_cons_self
theorem srcN_le(n:Int):(srcN n).length≤20:=by unfold srcN;(repeat' split)<;>simp
theorem pfxF_le(a:Nat)(n:Int):(pfxF a n).length≤20:=by
 unfold pfxF hostF;split
 ·split
  ·have:=zDd a
   have:=zGw 1 n.toNat (by omega);simp;omega
  ·simp
 ·simp
theorem ite_key{c:Prop}[Decidable c]{a b:FmR}{N:Nat}(ha:a.1.length≤N)(hb:b.1.length≤N):(if c then a else b).1.length≤N:=by split<;>assumption
theorem fm_key{f:Fm}{blk:Bool}{r:Rt}{p:Ps}(h:p.short):(fmS f blk r p).1.length≤2000000100:=by
 have a1:=wV_le h;have a2:=wV_le (zBs h);have a3:=srcN_le (srcV (wS p));have a4:=zDd (adV (wS p));have a5:=pfxF_le (pxV (wS p)).1 (pxV (wS p)).2;cases f
 all_goals
  simp only[fmS,topF,zIc,zIb,zDy,zGc,zKg,zCz,rulesF,ruleF,zGl,zMv,zEr,zDt,zDv,pathF,zEc,redF']
  repeat' (first|apply ite_key|split)
  all_goals (simp only[impS,nmK,nmV,yA,yG,yH];omega)
section
variable {f : Fm} {ks ws : List (List UInt8)} {line : Int} {blk : Bool} {kids ns : List Nd} {r r' r2 : Rt} {key : List UInt8} {inner : Option Fm} {g : Fm} {p : Ps}
theorem readN_bad(h:fmS f blk r ⟨ws,false⟩=(key,inner,r', p))(hb:(!doneB p||blk != inner.isSome)=true):readN f ks (.mk line ws blk kids :: ns) r=(r', some (line,2)):=by
 simp only[readN,zEz,h,hb,if_true]
theorem readN_dup(h:fmS f blk r ⟨ws,false⟩=(key,inner,r', p))(hb:(!doneB p||blk != inner.isSome)=false)(hk:(!key.isEmpty&&ks.contains key)=true):readN f ks (.mk line ws blk kids :: ns) r=(r', some (line,4)):=by
 simp only[readN,zEz,h,hb,hk,if_true,Bool.false_eq_true,if_false]
theorem readN_leaf(h:fmS f blk r ⟨ws,false⟩=(key,none,r', p))(hb:(!doneB p||blk != false)=false)(hk:(!key.isEmpty&&ks.contains key)=false):readN f ks (.mk line ws blk kids :: ns) r=readN f (key :: ks) ns r' := by
 simp only[readN,zEz,h,Option.isSome_none,hb,hk,Bool.false_eq_true,if_false]
theorem readN_in(h:fmS f blk r ⟨ws,false⟩=(key,some g,r', p))(hb:(!doneB p||blk != true)=false)(hk:(!key.isEmpty&&ks.contains key)=false)(hi:readN g [] kids r' = (r2,none)):readN f ks (.mk line ws blk kids :: ns) r=readN f (key :: ks) ns r2:=by
 simp only[readN,zEz,h,Option.isSome_some,hb,hk,hi,Bool.false_eq_true,if_false]
theorem readN_inbad{e:Int × Int}(h:fmS f blk r ⟨ws,false⟩=(key,some g,r', p))(hb:(!doneB p||blk != true)=false)(hk:(!key.isEmpty&&ks.contains key)=false)(hi:readN g [] kids r' = (r2,some e)):readN f ks (.mk line ws blk kids :: ns) r=(r2,some e):=by
 simp only[readN,zEz,h,Option.isSome_some,hb,hk,hi,Bool.false_eq_true,if_false]
end
end Go.Proofs.YtdlgnhefpoalnaaGreatDoor
