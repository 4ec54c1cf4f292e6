/- Beta's cursor in memory; what sequence and node answer. No condition. -/
import Derived.Test.YtdlgnhefpoalnaaGreatDoorLaa
namespace Go.Proofs.YtdlgnhefpoalnaaGreatDoor
open Lib (hid)
open Go.RowKit
theorem clause_form:FormC .clause:=by
 intro g B b k w0 w r K kb p fv h hf he hs hr hk;obtain⟨m0,m,em,gg,cap,l0,x,q,e1,e2,rfl,e4⟩:=hf;have ep:=btR_maps em;have hrow:rM m=rowE 138 7 Cl.C m.v (l0++[x]):=by rw[←e1];rfl
 rw[hrow]at ep;obtain⟨cur,hc,hclose⟩:=h.last (E:=138) (n:=7) (C:=Cl.C) (v:=m.v) (l0:=l0) (x:=x) (gg:=gg) (cap:=cap) (K0:=[(q,.cells #[.pointer (some ⟨gg,l0.length*7,none⟩)] 216 (0,0))]) ep e2 (by decide) (fun _=>rfl) (fun k hk=>by obtain rfl:=List.mem_singleton.1 hk;exact e4);refine⟨249,#[],#[.pointer (some ⟨q,0,none⟩)],rfl,enters_of Tryz.func249 (by kernel_rfl) rfl,?_⟩;refine(clause1_any q gg (l0.length*7) b B cur x kb p w hc (h.toBR.env he) hs).mono ?_;intro e w' hp
 have hbt:∀φ:Cl→Cl,btR { r with maps:=m0++[⟨m.name,m.v,l0++[φ x]⟩] }=((btR r).take 14++(r.lists.map rP++m0.map rM))++rowE 138 7 Cl.C m.v (l0++[φ x]) :: r.acls.map rA:=by
  intro φ;have q1:=btR_maps (r:={ r with maps:=m0++[⟨m.name,m.v,l0++[φ x]⟩] }) (m0:=m0) (m:=⟨m.name,m.v,l0++[φ x]⟩) rfl;rw[q1]
  have q2:(btR { r with maps:=m0++[⟨m.name,m.v,l0++[φ x]⟩] }).take 14=(btR r).take 14:=by
   have q3:rowE 84 2 RMap.C r.mapsV (m0++[⟨m.name,m.v,l0++[φ x]⟩])=rowE 84 2 RMap.C r.mapsV r.maps:=by rw[em];exact rowE_last rfl
   simp only[btR,List.take_succ_cons,List.take_zero,q3]
  rw[q2];rfl
 refine zGf (mkR:=fun φ=>{ r with maps:=m0++[⟨m.name,m.v,l0++[φ x]⟩] }) (fun _ _=>rfl) (fun φ p' w' hc' => hclose (φ x) p' w' _ hc' rfl (hbt φ)) (fun φ=>?_) (fun φ _=>⟨rfl,rfl,rfl,(by rw[em];simp),rfl,rfl⟩) (fun φ K0 hq=>?_) hp
 ·show { r.plain with maps:=lastF (fun y=>{ y with clauses:=lastF φ y.clauses }) (r.maps.map fun x:RMap=>⟨x.name,.slice none 0 0,x.clauses⟩) }={ r.plain with maps:=(m0++[(⟨m.name,m.v,l0++[φ x]⟩:RMap)]).map fun x:RMap=>⟨x.name,.slice none 0 0,x.clauses⟩ }
  simp only[em,e1,List.map_append,List.map_cons,List.map_nil,zDb]
 ·obtain⟨m1,m2,em', hq⟩:=hq
  rw[em]at em';obtain⟨rfl,e5⟩:=List.append_inj' em' rfl;injection e5 with e5 _
  subst e5;exact⟨m0,_,rfl,ElV.stay hq rfl (by rw[e1];simp) (fun _ h=>h)⟩
theorem RdV.stay{typed:Bool}{v:Value}{l l' : List Rd}{K:Kept}{fv:Value}(h:RdV typed v l K fv)(hl:l'.length=l.length):RdV typed v l' K fv:=by
 obtain⟨gg,cap,l0,x,k,k2,e1,e2,e3,e4,e5⟩:=h;obtain⟨l1,y,e6,e7⟩:=snoc_of hl e1;exact⟨gg,cap,l1,y,k,k2,e6,by rw[e7];exact e2,e3,by rw[e7];exact e4,e5⟩
theorem redLS_form:FormC .redLS:=by
 intro g B b k w0 w r K kb p fv h hf he hs hr hk;obtain⟨gg,cap,l0,x,q,q2,e1,e2,rfl,e4,e5⟩:=hf
 obtain⟨cur,hc,hclose⟩:=h.last (E:=230) (n:=5) (C:=Rd.C) (v:=r.lsRedV) (l0:=l0) (x:=x) (gg:=gg) (cap:=cap) (K0:=[(q,.cells #[.pointer (some ⟨gg,l0.length*5,none⟩)] 301 (0,0)),(q2,.cells #[.bool true] 4 (0,0))]) (pre:=(btR r).take 4) (post:=(btR r).drop 5) (by rw[←e1];rfl) e2 (by decide) (fun _=>rfl) (fun k hk=>by
  simp only[List.mem_cons,List.not_mem_nil,or_false]at hk;rcases hk with rfl|rfl
  ·exact e4
  ·exact e5)
 refine⟨273,#[],#[.pointer (some ⟨q,0,none⟩),.pointer (some ⟨q2,0,none⟩)],rfl,enters_of Tryz.func273 (by kernel_rfl) rfl,?_⟩;refine(zJt (fun g r=>{ r with lsRed:=lastF g r.lsRed }) (fun r=>by rw[zFt]) true q q2 gg (l0.length*5) b B cur x kb p w hc (h.toBR.env he) hs).mono ?_;intro e w' hp;refine zGf (mkR:=fun φ=>{ r with lsRed:=l0++[φ x] }) (fun _ _=>rfl) (fun φ p' w' hc' => hclose (φ x) p' w' _ hc' rfl rfl) (fun φ=>?_) (fun φ _=>⟨rfl,rfl,rfl,rfl,rfl,rfl⟩) (fun φ K0 hq=>RdV.stay hq (by rw[e1];simp)) hp;show { r.plain with lsRed:=lastF φ r.lsRed }=_;rw[e1,zDb];rfl
theorem redDV_form:FormC .redDV:=by
 intro g B b k w0 w r K kb p fv h hf he hs hr hk;obtain⟨gg,cap,l0,x,q,q2,e1,e2,rfl,e4,e5⟩:=hf
 obtain⟨cur,hc,hclose⟩:=h.last (E:=230) (n:=5) (C:=Rd.C) (v:=r.dvRedV) (l0:=l0) (x:=x) (gg:=gg) (cap:=cap) (K0:=[(q,.cells #[.pointer (some ⟨gg,l0.length*5,none⟩)] 301 (0,0)),(q2,.cells #[.bool false] 4 (0,0))]) (pre:=(btR r).take 5) (post:=(btR r).drop 6) (by rw[←e1];rfl) e2 (by decide) (fun _=>rfl) (fun k hk=>by
  simp only[List.mem_cons,List.not_mem_nil,or_false]at hk;rcases hk with rfl|rfl
  ·exact e4
  ·exact e5)
 refine⟨273,#[],#[.pointer (some ⟨q,0,none⟩),.pointer (some ⟨q2,0,none⟩)],rfl,enters_of Tryz.func273 (by kernel_rfl) rfl,?_⟩;refine(zJt (fun g r=>{ r with dvRed:=lastF g r.dvRed }) (fun r=>by rw[zFt]) false q q2 gg (l0.length*5) b B cur x kb p w hc (h.toBR.env he) hs).mono ?_;intro e w' hp;refine zGf (mkR:=fun φ=>{ r with dvRed:=l0++[φ x] }) (fun _ _=>rfl) (fun φ p' w' hc' => hclose (φ x) p' w' _ hc' rfl rfl) (fun φ=>?_) (fun φ _=>⟨rfl,rfl,rfl,rfl,rfl,rfl⟩) (fun φ K0 hq=>RdV.stay hq (by rw[e1];simp)) hp;show { r.plain with dvRed:=lastF φ r.dvRed }=_;rw[e1,zDb];rfl
theorem redPV_form:FormC .redPV:=by
 intro g B b k w0 w r K kb p fv h hf he hs hr hk;obtain⟨gg,cap,l0,x,q,q2,e1,e2,rfl,e4,e5⟩:=hf
 obtain⟨cur,hc,hclose⟩:=h.last (E:=230) (n:=5) (C:=Rd.C) (v:=r.pvRedV) (l0:=l0) (x:=x) (gg:=gg) (cap:=cap) (K0:=[(q,.cells #[.pointer (some ⟨gg,l0.length*5,none⟩)] 301 (0,0)),(q2,.cells #[.bool false] 4 (0,0))]) (pre:=(btR r).take 10) (post:=(btR r).drop 11) (by rw[←e1];rfl) e2 (by decide) (fun _=>rfl) (fun k hk=>by
  simp only[List.mem_cons,List.not_mem_nil,or_false]at hk;rcases hk with rfl|rfl
  ·exact e4
  ·exact e5)
 refine⟨273,#[],#[.pointer (some ⟨q,0,none⟩),.pointer (some ⟨q2,0,none⟩)],rfl,enters_of Tryz.func273 (by kernel_rfl) rfl,?_⟩;refine(zJt (fun g r=>{ r with pvRed:=lastF g r.pvRed }) (fun r=>by rw[zFt]) false q q2 gg (l0.length*5) b B cur x kb p w hc (h.toBR.env he) hs).mono ?_;intro e w' hp;refine zGf (mkR:=fun φ=>{ r with pvRed:=l0++[φ x] }) (fun _ _=>rfl) (fun φ p' w' hc' => hclose (φ x) p' w' _ hc' rfl rfl) (fun φ=>?_) (fun φ _=>⟨rfl,rfl,rfl,rfl,rfl,rfl⟩) (fun φ K0 hq=>RdV.stay hq (by rw[e1];simp)) hp;show { r.plain with pvRed:=lastF φ r.pvRed }=_;rw[e1,zDb];rfl
def Cu(c B:Nat)(lines:Int)(t:List Tk)(w:World):Prop:=B≤c∧∃v,w.heap[c]? = some (.cells #[v,.int .i64 lines] 118 (0,0))∧Slc w B 2 v t.length (t.flatMap zDo)∧∃A p,v=.slice A t.length p∧t.length≤p
section
variable {c B : Nat} {lines : Int} {t r : List Tk} {x : Tk} {w w' : World}
theorem Cu.lt(h:Cu c B lines t w):c<w.heap.size:=by obtain⟨-,v,hv,-⟩:=h;exact zBj hv
theorem Cu.rest0(h:Cu c B lines t w):∃A p,w.cell? ⟨c,0,none⟩=some (.slice A t.length p):=by
 obtain⟨-,v,hv,-,A,p,rfl,-⟩:=h;exact⟨A,p,by rw[Lib.cell_of_heap hv];rfl⟩
theorem Cu.linesC(h:Cu c B lines t w):w.cell? ⟨c,1,none⟩=some (.int .i64 lines):=by
 obtain⟨-,v,hv,-⟩:=h;rw[Lib.cell_of_heap hv];rfl
theorem Cu.other(h:Cu c B lines t w){row:Option Nat}(hg:w.grownBy w' row)(hr:∀g,row=some g→B≤g∧g≠c):Cu c B lines t w' := by
 obtain⟨h1,v,hv,hs,hc⟩:=h;refine⟨h1,v,(hg.block c (zBj hv) (fun e=>(hr c e.symm).2 rfl)).trans hv,hs.grown hg (fun k hk g o p e hn=>?_),hc⟩;obtain⟨A,p', e',-,-,-,hx⟩:=hs;obtain⟨g', o', rfl,hgB,-⟩:=hx hn;rw[e']at e;injection e with e1 _ _
 injection e1 with e1
 injection e1 with e1 _ _
 have:=(hr k hk).1;omega
theorem Cu.keep(h:Cu c B lines t w)(hb:Below w.heap.size w w'):Cu c B lines t w' := h.other (zDf (yI _) hb none) (fun g e=>by cases e)
theorem Cu.popped(h:Cu c B lines (x :: r) w) :
  ∃g o p,w.heap[c]? = some (.cells #[.slice (some ⟨g,o,none⟩) (r.length+1) p,.int .i64 lines] 118 (0,0))∧w.cell? ⟨g,o,none⟩=some (.int .i64 x.1)∧w.cell? ⟨g,o+1,none⟩=some (strV x.2)∧w.rangeAt g o (zDo x)∧r.length+1≤p∧r.length+1≤maxLen ∧
   ∀A', (p≠1→A' = some ⟨g,o+2,none⟩)→A' ≠ none→Cu c B lines r (w.setCell ⟨c,0,none⟩ (.slice A' r.length (p - 1)))∧w.grownBy (w.setCell ⟨c,0,none⟩ (.slice A' r.length (p - 1))) (some c):=by
 obtain⟨h1,v,hv,hs,A,p,rfl,hc⟩:=h;obtain⟨A0,c0,e,hm,hl,hA,hx⟩:=hs;cases e
 obtain⟨g,o,rfl,hg,hcell⟩:=hx (by simp);have hgc:g≠c:=by omega
 have hgr:=fun u=>zBb w c 0 u
 refine⟨g,o,p,hv,by simpa using hcell 0 (.int .i64 x.1) rfl,by simpa using hcell 1 (strV x.2) rfl,fun j u hu=>?_,by simpa using hc,by simpa using hm,fun A' hA' hn=>⟨⟨h1,_,Lib.heap_setCell_same (i:=0) hv _,?_,A', p - 1,rfl,?_⟩,hgr _⟩⟩
 ·have hj:j<(zDo x).length:=by
   rcases Nat.lt_or_ge j (zDo x).length with h|h
   ·exact h
   ·rw[List.getElem?_eq_none h]at hu;cases hu
  exact hcell j u (by rw[List.flatMap_cons,List.getElem?_append_left hj];exact hu)
 ·refine⟨A', p - 1,rfl,?_,by have h2:=hl;rw[List.flatMap_cons,yA,show(zDo x).length=2 from rfl,yG]at h2;omega,fun h=>absurd h hn,fun hr=>⟨g,o+2,hA' ?_,hg,fun j u hu=>?_⟩⟩
  ·simp only[yG]at hm;show r.length≤_;omega
  ·simp only[yG]at hc;have:0<r.length:=hr;omega
  ·have:=hcell (j+2) u (by simpa [zDo] using hu)
   refine(hgr _).cell (a:=⟨g,o+2+j,none⟩) ?_ (fun e=>hgc (by injection e));rw[show o+2+j=o+(j+2)from by omega];exact this
 ·simp only[yG]at hc;show r.length≤_;omega
end
def SeqP(c B:Nat)(lines:Int)(s:Except Int (List Nd × List Tk))(w:World)(e:Ending)(w' : World):Prop:=w.grownBy w' (some c)∧match s with
 |.error l=>e=.returned (.tuple #[.slice none 0 0,.int .i64 l,.int .i64 2])
 |.ok (ns,t)=>∃v,e=.returned (.tuple #[v,.int .i64 0,.int .i64 0])∧NdV w' (w.heap.size≤·) v ns∧Cu c B lines t w'
def NodeP(c B:Nat)(lines:Int)(s:Except Int (Nd × List Tk))(w:World)(e:Ending)(w' : World):Prop:=w.grownBy w' (some c)∧match s with
 |.error l=>e=.returned (.tuple #[.agg #[.int .i64 0,.slice none 0 0,.bool false,.slice none 0 0],.int .i64 l,.int .i64 2])
 |.ok (x,t)=>∃cs:Array Value,e=.returned (.tuple #[.agg cs,.int .i64 0,.int .i64 0])∧NdC w' (w.heap.size≤·) x cs.toList∧Cu c B lines t w'
theorem seq_len(lines:Int):∀n,(∀inner t ns ks r,seqN lines n inner t ns=.ok (ks,r)→r.length≤t.length∧ks.length+r.length≤ns.length+t.length)∧(∀at_ t ws x r,nodeN lines n at_ t ws=.ok (x,r)→r.length<t.length):=by
 intro n;induction n with
 |zero=>exact⟨fun _ _ _ _ _ h=>(by rw[seqN]at h;cases h),fun _ _ _ _ _ h=>(by rw[nodeN]at h;cases h)⟩
 |succ n ih=>
  refine⟨fun inner t ns ks r h=>?_,fun at_ t ws x r h=>?_⟩
  ·cases t with
   |nil=>
    rw[seqN]at h;split at h
    ·cases h
    ·cases h;exact⟨yI _,yI _⟩
   |cons y t=>
    rw[seqN]at h;split at h
    ·cases h;simp only[yG];omega
    ·revert h
     cases hn:nodeN lines n y.1 (y :: t) []with
     |error l=>intro h;cases h
     |ok a=>
      intro h;have h1:=ih.2 _ _ _ _ _ hn;have h2:=ih.1 _ _ _ _ _ h;simp only[yA,yG,yH]at *;omega
  ·cases t with
   |nil=>rw[nodeN]at h;cases h
   |cons y t=>
    rw[nodeN]at h;split at h
    ·have:=ih.2 _ _ _ _ _ h
     simp only[yG];omega
    ·split at h
     ·cases h
     ·split at h
      ·cases h;simp
      ·revert h
       cases hs:seqN lines n true t []with
       |error l=>intro h;cases h
       |ok a=>
        intro h;cases h
        have:=(ih.1 _ _ _ _ _ hs).1;simp only[yG];omega
end Go.Proofs.YtdlgnhefpoalnaaGreatDoor
