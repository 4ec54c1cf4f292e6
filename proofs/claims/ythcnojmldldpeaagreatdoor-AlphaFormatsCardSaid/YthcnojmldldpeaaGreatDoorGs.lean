/- The walks of linkStateCommand and distanceCommand. Conditions: the reader's lists are short (AlOk). -/
import Derived.Test.YthcnojmldldpeaaGreatDoorGq
import Derived.Deep.DeepCutAuto
set_option maxRecDepth 8000
set_option maxHeartbeats 40000000
namespace Go.Proofs.YthcnojmldldpeaaGreatDoor
open Lib (hid)
open Go.RowKit
def blks(rs:List Orow):List Nat:=rs.filterMap (·.v.ownBlock)
theorem zDs(a b:List Orow):blks (a++b)=blks a++blks b:=List.filterMap_append
theorem OwnAll.swap{w w' : World}{B:Nat}{pre X X' post:List Orow}{rs:List Nat}(h:OwnAll w B (pre++X++post))(hf:Fr rs w w')(ho:OwnAll w' B X')(hn:∀k∈blks X', k∈blks X∨w.heap.size≤k)
  (hr:∀k∈rs,k∉blks pre∧k∉blks post):OwnAll w' B (pre++X' ++ post):=by
 have hd:=h.2;rw[List.filterMap_append,List.filterMap_append]at hd
 have hlt:∀k,k∈blks pre∨k∈blks post→k<w.heap.size:=by
  intro k hk;refine(OwnAll.lt h ?_).1;rw[List.filterMap_append,List.filterMap_append];rcases hk with hk|hk
  ·exact List.mem_append_left _ (List.mem_append_left _ hk)
  ·exact List.mem_append_right _ hk
 refine⟨fun r hr' => ?_,?_⟩
 ·rcases List.mem_append.1 hr' with h1|h1
  ·rcases List.mem_append.1 h1 with h2|h2
   ·exact Orow.own.fr (h.1 r (List.mem_append_left _ (List.mem_append_left _ h2))) hf (fun g hg hm=>(hr g hm).1 (List.mem_filterMap.2 ⟨r,h2,hg⟩))
   ·exact ho.1 r h2
  ·exact Orow.own.fr (h.1 r (List.mem_append_right _ h1)) hf (fun g hg hm=>(hr g hm).2 (List.mem_filterMap.2 ⟨r,h1,hg⟩))
 ·rw[List.filterMap_append,List.filterMap_append]
  have h1:=List.nodup_append.1 hd;have h2:=List.nodup_append.1 h1.1;refine List.nodup_append.2 ⟨List.nodup_append.2 ⟨h2.1,ho.2,fun a ha b hb e=>?_⟩,h1.2.1,fun a ha b hb e=>?_⟩
  ·subst e
   rcases hn a hb with hx|hx
   ·exact h2.2.2 a ha a hx rfl
   ·have:=hlt a (.inl ha);omega
  ·subst e
   rcases List.mem_append.1 ha with ha|ha
   ·exact h1.2.2 a (List.mem_append_left _ ha) a hb rfl
   ·rcases hn a ha with hx|hx
    ·exact h1.2.2 a (List.mem_append_right _ hx) a hb rfl
    ·have:=hlt a (.inr hb);omega
structure RS (E T:TypeId) (g b B:Nat) (w0:World) (cs:Array Value) (rs:List Orow) (p:Ps) (w:World):Prop where
 has:HasC E g cs w
 own:OwnAll w B rs
 st:WSt T b B p w
 bel:Below B w0 w
 bB:B≤w0.heap.size
 gB:B≤g
 gb:g≠b
 gr:g∉blks rs
 br:b∉blks rs
section
variable {E T : TypeId} {g b B : Nat} {w0 w w' : World} {cs cs' : Array Value} {rs pre X X' post : List Orow} {p p' : Ps}
theorem RS.size(h:RS E T g b B w0 cs rs p w):w0.heap.size≤w.heap.size:=h.bel.size
theorem RS.g_lt(h:RS E T g b B w0 cs rs p w):g<w.heap.size:=zCv h.has
theorem RS.b_lt(h:RS E T g b B w0 cs rs p w):b<w.heap.size:=h.st.lt
theorem RS.cell(h:RS E T g b B w0 cs rs p w)(j:Nat):w.cell? ⟨g,j,none⟩=cs[j]?:=h.has.cell j
theorem RS.frz(h:RS E T g b B w0 cs rs p w)(j:Nat):w.frozen? ⟨g,j,none⟩=false:=h.has.frz j
theorem RS.env(h:RS E T g b B w0 cs rs p w)(he:EnvA B w0):EnvA B w:=he.keep h.bel
theorem RS.blt(h:RS E T g b B w0 cs rs p w){k:Nat}(hk:k∈blks rs):k<w.heap.size∧B≤k:=OwnAll.lt h.own hk
theorem RS.put(h:RS E T g b B w0 cs rs p w)(j:Nat)(v:Value)(e:cs.setIfInBounds j v=cs'):RS E T g b B w0 cs' rs p (w.setCell ⟨g,j,none⟩ v):=by
 have hg:=zDi w g j v;have hw:=h.size;have hB:=h.bB;refine⟨?_,h.own.frame hg (fun k hk=>by cases hk;exact h.gr),h.st.other hg (fun k hk=>by cases hk;exact⟨h.gB,h.gb⟩),h.bel.trans (zBj hg h.gB (by omega)),h.bB,h.gB,h.gb,h.gr,h.br⟩;subst e;exact Lib.heap_setCell_same (i:=j) h.has v
theorem RS.word(h:RS E T g b B w0 cs rs p w)(hs:WSt T b B p' w')(hg:w.grownBy w' (some b)):RS E T g b B w0 cs rs p' w' := by
 have hw:=h.size;have hB:=h.bB;exact⟨h.has.grown hg (fun e=>h.gb (by injection e)),h.own.frame hg (fun k hk=>by cases hk;exact h.br),hs,h.bel.trans (zBj hg h.st.1 (by omega)),h.bB,h.gB,h.gb,h.gr,h.br⟩
theorem RS.keep(h:RS E T g b B w0 cs rs p w)(hb:Below w.heap.size w w'):RS E T g b B w0 cs rs p w' := by
 have hw:=h.size;have hB:=h.bB;exact⟨h.has.keep hb,h.own.below hb,h.st.keep hb,h.bel.trans (hb.mono (by omega)),h.bB,h.gB,h.gb,h.gr,h.br⟩
theorem RS.bad(h:RS E T g b B w0 cs rs p w):RS E T g b B w0 cs rs p.fail (w.setCell ⟨b,1,none⟩ (.bool true)):=h.word h.st.failed.1 h.st.failed.2
theorem RS.swap(h:RS E T g b B w0 cs (pre++X++post) p w)(hf:Fr (b :: blks X) w w')(hs:WSt T b B p' w')(ho:OwnAll w' B X')(hn:∀k∈blks X', k∈blks X∨w.heap.size≤k) :
  RS E T g b B w0 cs (pre++X' ++ post) p' w' := by
 have hw:=h.size;have hB:=h.bB;have hgr:=h.gr;have hbr:=h.br;have hd:=h.own.2;rw[List.filterMap_append,List.filterMap_append]at hd;rw[zDs,zDs]at hgr hbr;have hX:∀k∈blks X,k∈blks (pre++X++post):=fun k hk=>by rw[zDs,zDs];exact List.mem_append_left _ (List.mem_append_right _ hk)
 have hgB:=h.gB;have hbB:=h.st.1;have hgl:=h.g_lt;have hbl:=h.b_lt;refine⟨HasC.fr h.has hf (fun hm=>?_),OwnAll.swap h.own hf ho hn (fun k hk=>?_),hs,h.bel.trans (hf.below (fun k hk=>?_) (by omega)),h.bB,h.gB,h.gb,?_,?_⟩
 ·rcases List.mem_cons.1 hm with e|e
  ·exact h.gb e
  ·exact h.gr (hX _ e)
 ·rcases List.mem_cons.1 hk with e|e
  ·subst e
   exact⟨fun hm=>hbr (List.mem_append_left _ (List.mem_append_left _ hm)),fun hm=>hbr (List.mem_append_right _ hm)⟩
  ·have h1:=List.nodup_append.1 hd
   have h2:=List.nodup_append.1 h1.1;exact⟨fun hm=>h2.2.2 k hm k e rfl,fun hm=>h1.2.2 k (List.mem_append_right _ e) k hm rfl⟩
 ·rcases List.mem_cons.1 hk with e|e
  ·omega
  ·exact(h.blt (hX k e)).2
 ·rw[zDs,zDs]
  intro hm;rcases List.mem_append.1 hm with hm|hm
  ·rcases List.mem_append.1 hm with hm|hm
   ·exact hgr (List.mem_append_left _ (List.mem_append_left _ hm))
   ·rcases hn _ hm with e|e
    ·exact hgr (List.mem_append_left _ (List.mem_append_right _ e))
    ·omega
  ·exact hgr (List.mem_append_right _ hm)
 ·rw[zDs,zDs]
  intro hm;rcases List.mem_append.1 hm with hm|hm
  ·rcases List.mem_append.1 hm with hm|hm
   ·exact hbr (List.mem_append_left _ (List.mem_append_left _ hm))
   ·rcases hn _ hm with e|e
    ·exact hbr (List.mem_append_left _ (List.mem_append_right _ e))
    ·omega
  ·exact hbr (List.mem_append_right _ hm)
theorem RS.row{r r' : Orow}(h:RS E T g b B w0 cs (pre++r :: post) p w)(hg:w.grownBy w' r.v.ownBlock)(ho:r'.own w' B)(hn:r'.v.ownBlock=r.v.ownBlock∨r'.v.ownBlock=none∨∃k,r'.v.ownBlock=some k∧w.heap.size≤k) :
  RS E T g b B w0 cs (pre++r' :: post) p w' := by
 have e:∀x:Orow,pre++x :: post=pre++[x]++post:=fun x=>by simp
 rw[e]at h⊢;have hx:∀k,r.v.ownBlock=some k→k∈blks (pre++[r]++post):=fun k hk=>List.mem_filterMap.2 ⟨r,by simp,hk⟩
 have hbB:=h.st.1;refine h.swap (Fr.of_grown hg (fun k hk=>List.mem_cons_of_mem _ (List.mem_filterMap.2 ⟨r,by simp,hk⟩))) (h.st.other hg (fun k hk=>⟨(h.blt (hx k hk)).2,fun e=>h.br (by rw[←e];exact hx k hk)⟩)) ⟨fun x hx=>by obtain rfl:=List.mem_singleton.1 hx;exact ho,?_⟩ (fun k hk=>?_)
 ·rw[List.filterMap_cons];split<;>simp
 ·obtain⟨x,hx', hk'⟩:=List.mem_filterMap.1 hk
  obtain rfl:=List.mem_singleton.1 hx';rcases hn with e' | e' | ⟨k', e', hk2⟩
  ·exact .inl (List.mem_filterMap.2 ⟨r,by simp,e'.symm.trans hk'⟩)
  ·rw[e']at hk';cases hk'
  ·rw[e']at hk';injection hk' with hk';subst hk';exact .inr hk2
end
theorem whost_any(b B:Nat)(p:Ps)(w:World)(h:WSt 185 b B p w)(he:EnvA B w)(hs:p.short):Calls Tryz.prog 184 #[.pointer (some ⟨b,0,none⟩)] w (WPost 185 b B (.tuple #[.int .u32 ((hoV p).1:Int),.int .i64 (hoV p).2]) (hoS p) w):=by
 have hB:=h.1;have hlt:=h.lt;have hss:=wV_short hs;have H:=hid h;have HE:=hid he;have HN:=hid (fun w h=>zFp b B p w h);have HM:=hid (fun p ok w h=>zFb b B p ok w h);have HK:Hid (∀w,Env w→Calls Tryz.prog 224 #[.string (str (wV p))] w (zGj (hostA (wV p)) w)):=hid (fun w he=>by have:=zIi (str (wV p)) w he hss;rw[zBq]at this;exact this);unfold strV at HN;unfold hoS hoV;unfold zGj at HK;clear h he hs hss;generalize hostA (wV p)=o at HK⊢;have E:Hid (∀c:Bool,(o.isSome && !((o.getD (0,0)).1==0) && !((o.getD (0,0)).2==0))=c→WPost 185 b B (.tuple #[.int .u32 ((o.getD (0,0)).1:Int),.int .i64 (o.getD (0,0)).2]) (mustS (o.isSome && !((o.getD (0,0)).1==0) && !((o.getD (0,0)).2==0)) (wS p)) w=WPost 185 b B (.tuple #[.int .u32 ((o.getD (0,0)).1:Int),.int .i64 (o.getD (0,0)).2]) (mustS c (wS p)) w):=hid (fun c e=>by rw[e]);cases o with
 |none=>
  rw[E.out false rfl];simp only[Option.getD_none,Option.isSome_none]at HK⊢;go_enter Tryz.func184,Tryz.ntmps184;go_wp2_with fail;refine(HN.out _ H.out).mono ?_;rintro e w1 ⟨rfl,h1,k1⟩;have HE1:=hid (HE.out.on k1 hB (by omega));go_wp2_with fail;refine(HK.out _ HE1.out.1).mono ?_;rintro e w2 ⟨rfl,k2⟩;go_wp2_with fail;refine(HM.out _ _ _ (h1.keep k2)).mono ?_;rintro e w3 ⟨rfl,h3,k3⟩;go_wp2_with fail;go_ret2;exact⟨rfl,h3,(zEj k1 (k2.mono k1.size)).trans k3⟩
 |some x=>
  obtain⟨a,n⟩:=x;simp only[Option.getD_some,Option.isSome_some,Bool.true_and]at HK E⊢;cases ha:(a==0)with
  |true=>
   have q1:(((a:Nat):Int) != 0)=false:=by have:=eq_of_beq ha;subst this;rfl
   rw[ha]at E;have e1:=E.out false rfl;rw[e1];clear ha e1 E;go_enter Tryz.func184,Tryz.ntmps184;go_wp2_with fail;refine(HN.out _ H.out).mono ?_;rintro e w1 ⟨rfl,h1,k1⟩;have HE1:=hid (HE.out.on k1 hB (by omega));go_wp2_with fail;refine(HK.out _ HE1.out.1).mono ?_;rintro e w2 ⟨rfl,k2⟩;go_wp2_with fail;refine(HM.out _ _ _ (h1.keep k2)).mono ?_;rintro e w3 ⟨rfl,h3,k3⟩;go_wp2_with fail;go_ret2;exact⟨rfl,h3,(zEj k1 (k2.mono k1.size)).trans k3⟩
  |false=>
   have q1:(((a:Nat):Int) != 0)=true:=by simp only[bne_iff_ne];intro e;rw[show a=0 from by omega]at ha;cases ha
   rw[ha]at E;cases hn:(n==0)with
   |true=>
    have q2:(n != 0)=false:=by have:=eq_of_beq hn;subst this;rfl
    rw[hn]at E;have e1:=E.out false rfl;rw[e1];clear ha hn e1 E;go_enter Tryz.func184,Tryz.ntmps184;go_wp2_with fail;refine(HN.out _ H.out).mono ?_;rintro e w1 ⟨rfl,h1,k1⟩;have HE1:=hid (HE.out.on k1 hB (by omega));go_wp2_with fail;refine(HK.out _ HE1.out.1).mono ?_;rintro e w2 ⟨rfl,k2⟩;go_wp2_with fail;refine(HM.out _ _ _ (h1.keep k2)).mono ?_;rintro e w3 ⟨rfl,h3,k3⟩;go_wp2_with fail;go_ret2;exact⟨rfl,h3,(zEj k1 (k2.mono k1.size)).trans k3⟩
   |false=>
    have q2:(n != 0)=true:=by simp only[bne_iff_ne];intro e;subst e;cases hn
    rw[hn]at E;have e1:=E.out true rfl;rw[e1];clear ha hn e1 E;go_enter Tryz.func184,Tryz.ntmps184;go_wp2_with fail;refine(HN.out _ H.out).mono ?_;rintro e w1 ⟨rfl,h1,k1⟩;have HE1:=hid (HE.out.on k1 hB (by omega));go_wp2_with fail;refine(HK.out _ HE1.out.1).mono ?_;rintro e w2 ⟨rfl,k2⟩;go_wp2_with fail;refine(HM.out _ _ _ (h1.keep k2)).mono ?_;rintro e w3 ⟨rfl,h3,k3⟩;go_wp2_with fail;go_ret2;exact⟨rfl,h3,(zEj k1 (k2.mono k1.size)).trans k3⟩
structure Cm (E:TypeId) (g o:Nat) (cur:Array Value) (T:TypeId) (b B:Nat) (w0:World) (cs:Array Value) (p:Ps) (w:World):Prop where
 part:Part E g o cur cs w
 st:WSt T b B p w
 fr:Fr [g,b] w0 w
 gb:g≠b
 gB:B≤g
 bB:B≤w0.heap.size
section
variable {E T : TypeId} {g o b B : Nat} {cur cs : Array Value} {p p' : Ps} {w0 w w' : World}
theorem Cm.start(h1:Part E g o cur cs w)(h2:WSt T b B p w)(h3:g≠b)(h4:B≤g):Cm E g o cur T b B w cs p w:=⟨h1,h2,Fr.refl _ _,h3,h4,by have:=h1.lt;omega⟩
theorem Cm.put(h:Cm E g o cur T b B w0 cs p w){cs' : Array Value}{j:Nat}(hj:j<cs.size)(v:Value)(e:cs.setIfInBounds j v=cs'):Cm E g o cur T b B w0 cs' p (w.setCell ⟨g,o+j,none⟩ v) :=
 ⟨h.part.put hj v e,h.st.other (zDi w g (o+j) v) (fun k hk=>by cases hk;exact⟨h.gB,h.gb⟩),h.fr.trans (Fr.set w (by simp) _ _),h.gb,h.gB,h.bB⟩
theorem Cm.word(h:Cm E g o cur T b B w0 cs p w)(hs:WSt T b B p' w')(hg:w.grownBy w' (some b)):Cm E g o cur T b B w0 cs p' w' :=
 ⟨h.part.frame hg (fun e=>h.gb (by injection e with e;exact e.symm)),hs,h.fr.trans (Fr.ofOne hg (by simp)),h.gb,h.gB,h.bB⟩
theorem Cm.cell(h:Cm E g o cur T b B w0 cs p w){j:Nat}(hj:j<cs.size):∃v,w.cell? ⟨g,o+j,none⟩=some v:=⟨cs[j],by rw[h.part.cell hj,Array.getElem?_eq_getElem hj]⟩
theorem Cm.frz(h:Cm E g o cur T b B w0 cs p w)(j:Nat):w.frozen? ⟨g,o+j,none⟩=false:=h.part.frz _
theorem Cm.env(h:Cm E g o cur T b B w0 cs p w)(he:EnvA B w0):EnvA B w :=
 he.keep (h.fr.below (fun k hk=>by
  have hb:=h.st.1;have hg:=h.gB;simp only[List.mem_cons,List.not_mem_nil,or_false]at hk
  rcases hk with rfl|rfl<;>assumption) h.bB)
end
def CPost(E:TypeId)(g o:Nat)(cur:Array Value)(T:TypeId)(b B:Nat)(w0:World)(cs:Array Value)(p:Ps)(e:Ending)(w:World):Prop:=e=.returned (.tuple #[])∧Cm E g o cur T b B w0 cs p w
theorem short_wS{p:Ps}(h:p.short):(wS p).short:=by
 obtain⟨fs,bad⟩:=p;cases fs with
 |nil=>exact h
 |cons f r=>exact fun x hx=>h x (List.mem_cons_of_mem _ hx)
theorem short_must{p:Ps}(c:Bool)(h:p.short):(mustS c p).short:=by
 unfold mustS;split<;>exact h
theorem zHk(g o b B:Nat)(cur:Array Value)(x:If)(word:List UInt8)(no:Bool)(p:Ps)(w:World)(h:Cm 68 g o cur 185 b B w x.C p w)(he:EnvA B w)(hs:p.short) :
  Calls Tryz.prog 156 #[.pointer (some ⟨g,o,none⟩),.string (str word),.bool no,.pointer (some ⟨b,0,none⟩)] w (CPost 68 g o cur 185 b B w (ifCmd x word no p).1.C (ifCmd x word no p).2):=by
 have H:=hid h;have HE:=hid he;have HS:=hid hs;have f0:=h.frz;clear h he hs;have q0:((str word).toList==[97,100,100,114,101,115,115])=(word==[97,100,100,114,101,115,115]):=by rw[zAe]
 have q1:((str word).toList==[118,108,97,110])=(word==[118,108,97,110]):=by rw[zAe]
 have q2:((str word).toList==[115,104,117,116,100,111,119,110])=(word==[115,104,117,116,100,111,119,110]):=by rw[zAe]
 have q3:((str word).toList==[108,115])=(word==[108,115]):=by rw[zAe]
 have q4:((str word).toList==[100,118])=(word==[100,118]):=by rw[zAe]
 have q5:((str word).toList==[105,110])=(word==[105,110]):=by rw[zAe]
 have q6:((str word).toList==[111,117,116])=(word==[111,117,116]):=by rw[zAe]
 have q7:((str word).toList==[115,105,100,101])=(word==[115,105,100,101]):=by rw[zAe]
 cases e0:(word==[97,100,100,114,101,115,115])with
 |true=>
  rw[e0]at q0;cases no with
  |true=>
   have E:Hid (ifCmd x word true p=({ x with addr:=0,len:=0 },p)):=hid (by unfold ifCmd;rw[e0];rfl);obtain⟨v1,c1⟩:=H.out.cell (j:=1) (show 1<12 from by decide);obtain⟨v2,c2⟩:=H.out.cell (j:=2) (show 2<12 from by decide);go_enter Tryz.func156,Tryz.ntmps156;go_wp2_with fail;go_end0;exact⟨rfl,by rw[E.out];exact((H.out.put (j:=1) (show 1<12 from by decide) _ rfl).put (j:=2) (show 2<12 from by decide) _ rfl)⟩
  |false=>
   have E:Hid (ifCmd x word false p=({ x with addr:=(hoV p).1,len:=(hoV p).2 },hoS p)):=hid (by unfold ifCmd;rw[e0];rfl);obtain⟨v1,c1⟩:=H.out.cell (j:=1) (show 1<12 from by decide);obtain⟨v2,c2⟩:=H.out.cell (j:=2) (show 2<12 from by decide);go_enter Tryz.func156,Tryz.ntmps156;go_wp2_with fail;refine(whost_any b B p _ ((H.out.put (j:=1) (show 1<12 from by decide) _ rfl).put (j:=2) (show 2<12 from by decide) _ rfl).st (((H.out.put (j:=1) (show 1<12 from by decide) _ rfl).put (j:=2) (show 2<12 from by decide) _ rfl).env HE.out) HS.out).mono ?_;rintro e w1 ⟨rfl,h1,k1⟩;have H1:=hid (((H.out.put (j:=1) (show 1<12 from by decide) _ rfl).put (j:=2) (show 2<12 from by decide) _ rfl).word h1 k1);have f1:=H1.out.frz;clear h1 k1;obtain⟨v1,c1⟩:=H1.out.cell (j:=1) (show 1<12 from by decide);obtain⟨v2,c2⟩:=H1.out.cell (j:=2) (show 2<12 from by decide);go_wp2_with fail;go_end0;exact⟨rfl,by rw[E.out];exact((H1.out.put (j:=1) (show 1<12 from by decide) _ rfl).put (j:=2) (show 2<12 from by decide) _ rfl)⟩
 |false=>
  cases e1:(word==[118,108,97,110])with
  |true=>
   rw[e0]at q0;rw[e1]at q1;cases no with
   |true=>
    have E:Hid (ifCmd x word true p=({ x with vlan:=0 },p)):=hid (by unfold ifCmd;rw[e0,e1];rfl);obtain⟨v3,c3⟩:=H.out.cell (j:=3) (show 3<12 from by decide);go_enter Tryz.func156,Tryz.ntmps156;go_wp2_with fail;go_end0;exact⟨rfl,by rw[E.out];exact(H.out.put (j:=3) (show 3<12 from by decide) _ rfl)⟩
   |false=>
    have E:Hid (ifCmd x word false p=({ x with vlan:=noV 0 4094 p },noS 0 4094 p)):=hid (by unfold ifCmd;rw[e0,e1];rfl);obtain⟨v3,c3⟩:=H.out.cell (j:=3) (show 3<12 from by decide);go_enter Tryz.func156,Tryz.ntmps156;go_wp2_with fail;refine(zEr b B p 0 4094 _ (H.out.put (j:=3) (show 3<12 from by decide) _ rfl).st).mono ?_;rintro e w1 ⟨rfl,h1,k1⟩;have H1:=hid ((H.out.put (j:=3) (show 3<12 from by decide) _ rfl).word h1 k1);have f1:=H1.out.frz;clear h1 k1;obtain⟨v3,c3⟩:=H1.out.cell (j:=3) (show 3<12 from by decide);go_wp2_with fail;go_end0;exact⟨rfl,by rw[E.out];exact(H1.out.put (j:=3) (show 3<12 from by decide) _ rfl)⟩
  |false=>
   cases e2:(word==[115,104,117,116,100,111,119,110])with
   |true=>
    rw[e0]at q0;rw[e1]at q1;rw[e2]at q2;cases no with
    |true=>
     have E:Hid (ifCmd x word true p=({ x with down:=false },p)):=hid (by unfold ifCmd;rw[e0,e1,e2];rfl);obtain⟨v4,c4⟩:=H.out.cell (j:=4) (show 4<12 from by decide);go_enter Tryz.func156,Tryz.ntmps156;go_wp2_with fail;go_end0;exact⟨rfl,by rw[E.out];exact(H.out.put (j:=4) (show 4<12 from by decide) _ rfl)⟩
    |false=>
     have E:Hid (ifCmd x word false p=({ x with down:=true },p)):=hid (by unfold ifCmd;rw[e0,e1,e2];rfl);obtain⟨v4,c4⟩:=H.out.cell (j:=4) (show 4<12 from by decide);go_enter Tryz.func156,Tryz.ntmps156;go_wp2_with fail;go_end0;exact⟨rfl,by rw[E.out];exact(H.out.put (j:=4) (show 4<12 from by decide) _ rfl)⟩
   |false=>
    cases e3:(word==[108,115])with
    |true=>
     rw[e0]at q0;rw[e1]at q1;rw[e2]at q2;rw[e3]at q3;cases no with
     |true=>
      have E:Hid (ifCmd x word true p=({ x with ls:=false,area:=0,cost:=0 },p)):=hid (by unfold ifCmd;rw[e0,e1,e2,e3];rfl);obtain⟨v5,c5⟩:=H.out.cell (j:=5) (show 5<12 from by decide);obtain⟨v6,c6⟩:=H.out.cell (j:=6) (show 6<12 from by decide);obtain⟨v7,c7⟩:=H.out.cell (j:=7) (show 7<12 from by decide);go_enter Tryz.func156,Tryz.ntmps156;go_wp2_with fail;go_end0;exact⟨rfl,by rw[E.out];exact(((H.out.put (j:=5) (show 5<12 from by decide) _ rfl).put (j:=6) (show 6<12 from by decide) _ rfl).put (j:=7) (show 7<12 from by decide) _ rfl)⟩
     |false=>
      cases c:isW [99,111,115,116] (noS 0 255 (mustS (isW [97,114,101,97] p) (optS [97,114,101,97] p)))with
      |true=>
       have HC:=hid c;have E:Hid (ifCmd x word false p=({ x with ls:=true,area:=noV 0 255 (mustS (isW [97,114,101,97] p) (optS [97,114,101,97] p)),cost:=noV 1 65535 (optS [99,111,115,116] (noS 0 255 (mustS (isW [97,114,101,97] p) (optS [97,114,101,97] p)))) },noS 1 65535 (optS [99,111,115,116] (noS 0 255 (mustS (isW [97,114,101,97] p) (optS [97,114,101,97] p)))))):=hid (by unfold ifCmd;rw[e0,e1,e2,e3];show(if isW [99,111,115,116] (noS 0 255 (mustS (isW [97,114,101,97] p) (optS [97,114,101,97] p)))=true then _ else _)=_;rw[c];rfl);obtain⟨v5,c5⟩:=H.out.cell (j:=5) (show 5<12 from by decide);obtain⟨v6,c6⟩:=H.out.cell (j:=6) (show 6<12 from by decide);obtain⟨v7,c7⟩:=H.out.cell (j:=7) (show 7<12 from by decide);go_enter Tryz.func156,Tryz.ntmps156;go_wp2_with fail;refine(zEs b B p [97,114,101,97] _ (((H.out.put (j:=5) (show 5<12 from by decide) _ rfl).put (j:=6) (show 6<12 from by decide) _ rfl).put (j:=7) (show 7<12 from by decide) _ rfl).st).mono ?_;rintro e w1 ⟨rfl,h1,k1⟩;have H1:=hid ((((H.out.put (j:=5) (show 5<12 from by decide) _ rfl).put (j:=6) (show 6<12 from by decide) _ rfl).put (j:=7) (show 7<12 from by decide) _ rfl).word h1 k1);have f1:=H1.out.frz;clear h1 k1;go_wp2_with fail;refine(zFb b B (optS [97,114,101,97] p) _ _ H1.out.st).mono ?_;rintro e w2 ⟨rfl,h2,k2⟩;have H2:=hid (H1.out.word h2 k2);have f2:=H2.out.frz;clear h2 k2;go_wp2_with fail;refine(zEr b B (mustS _ (optS [97,114,101,97] p)) 0 255 _ H2.out.st).mono ?_;rintro e w3 ⟨rfl,h3,k3⟩;have H3:=hid (H2.out.word h3 k3);have f3:=H3.out.frz;clear h3 k3;obtain⟨v6,c6⟩:=H3.out.cell (j:=6) (show 6<12 from by decide);obtain⟨v7,c7⟩:=H3.out.cell (j:=7) (show 7<12 from by decide);go_wp2_with fail;refine(zEs b B (noS 0 255 (mustS _ (optS [97,114,101,97] p))) [99,111,115,116] _ ((H3.out.put (j:=6) (show 6<12 from by decide) _ rfl).put (j:=7) (show 7<12 from by decide) _ rfl).st).mono ?_;rintro e w4 ⟨rfl,h4,k4⟩;have H4:=hid (((H3.out.put (j:=6) (show 6<12 from by decide) _ rfl).put (j:=7) (show 7<12 from by decide) _ rfl).word h4 k4);have f4:=H4.out.frz;clear h4 k4;rw[HC.out];go_wp2_with fail;refine(zEr b B (optS [99,111,115,116] (noS 0 255 (mustS _ (optS [97,114,101,97] p)))) 1 65535 _ H4.out.st).mono ?_;rintro e w5 ⟨rfl,h5,k5⟩;have H5:=hid (H4.out.word h5 k5);have f5:=H5.out.frz;clear h5 k5;obtain⟨v7,c7⟩:=H5.out.cell (j:=7) (show 7<12 from by decide);go_wp2_with fail;go_end0;exact⟨rfl,by rw[E.out];exact(H5.out.put (j:=7) (show 7<12 from by decide) _ rfl)⟩
      |false=>
       have HC:=hid c;have E:Hid (ifCmd x word false p=({ x with ls:=true,area:=noV 0 255 (mustS (isW [97,114,101,97] p) (optS [97,114,101,97] p)),cost:=10 },(noS 0 255 (mustS (isW [97,114,101,97] p) (optS [97,114,101,97] p))))):=hid (by unfold ifCmd;rw[e0,e1,e2,e3];show(if isW [99,111,115,116] (noS 0 255 (mustS (isW [97,114,101,97] p) (optS [97,114,101,97] p)))=true then _ else _)=_;rw[c];rfl);obtain⟨v5,c5⟩:=H.out.cell (j:=5) (show 5<12 from by decide);obtain⟨v6,c6⟩:=H.out.cell (j:=6) (show 6<12 from by decide);obtain⟨v7,c7⟩:=H.out.cell (j:=7) (show 7<12 from by decide);go_enter Tryz.func156,Tryz.ntmps156;go_wp2_with fail;refine(zEs b B p [97,114,101,97] _ (((H.out.put (j:=5) (show 5<12 from by decide) _ rfl).put (j:=6) (show 6<12 from by decide) _ rfl).put (j:=7) (show 7<12 from by decide) _ rfl).st).mono ?_;rintro e w1 ⟨rfl,h1,k1⟩;have H1:=hid ((((H.out.put (j:=5) (show 5<12 from by decide) _ rfl).put (j:=6) (show 6<12 from by decide) _ rfl).put (j:=7) (show 7<12 from by decide) _ rfl).word h1 k1);have f1:=H1.out.frz;clear h1 k1;go_wp2_with fail;refine(zFb b B (optS [97,114,101,97] p) _ _ H1.out.st).mono ?_;rintro e w2 ⟨rfl,h2,k2⟩;have H2:=hid (H1.out.word h2 k2);have f2:=H2.out.frz;clear h2 k2;go_wp2_with fail;refine(zEr b B (mustS _ (optS [97,114,101,97] p)) 0 255 _ H2.out.st).mono ?_;rintro e w3 ⟨rfl,h3,k3⟩;have H3:=hid (H2.out.word h3 k3);have f3:=H3.out.frz;clear h3 k3;obtain⟨v6,c6⟩:=H3.out.cell (j:=6) (show 6<12 from by decide);obtain⟨v7,c7⟩:=H3.out.cell (j:=7) (show 7<12 from by decide);go_wp2_with fail;refine(zEs b B (noS 0 255 (mustS _ (optS [97,114,101,97] p))) [99,111,115,116] _ ((H3.out.put (j:=6) (show 6<12 from by decide) _ rfl).put (j:=7) (show 7<12 from by decide) _ rfl).st).mono ?_;rintro e w4 ⟨rfl,h4,k4⟩;have H4:=hid (((H3.out.put (j:=6) (show 6<12 from by decide) _ rfl).put (j:=7) (show 7<12 from by decide) _ rfl).word h4 k4);have f4:=H4.out.frz;clear h4 k4;rw[HC.out];go_wp2_with fail;go_end0;exact⟨rfl,by rw[E.out];have q:=H4.out;rw[optS_no HC.out]at q;exact q⟩
    |false=>
     cases e4:(word==[100,118])with
     |true=>
      rw[e0]at q0;rw[e1]at q1;rw[e2]at q2;rw[e3]at q3;rw[e4]at q4;cases no with
      |true=>
       have E:Hid (ifCmd x word true p=({ x with dv:=false },p)):=hid (by unfold ifCmd;rw[e0,e1,e2,e3,e4];rfl);obtain⟨v8,c8⟩:=H.out.cell (j:=8) (show 8<12 from by decide);go_enter Tryz.func156,Tryz.ntmps156;go_wp2_with fail;go_end0;exact⟨rfl,by rw[E.out];exact(H.out.put (j:=8) (show 8<12 from by decide) _ rfl)⟩
      |false=>
       have E:Hid (ifCmd x word false p=({ x with dv:=true },p)):=hid (by unfold ifCmd;rw[e0,e1,e2,e3,e4];rfl);obtain⟨v8,c8⟩:=H.out.cell (j:=8) (show 8<12 from by decide);go_enter Tryz.func156,Tryz.ntmps156;go_wp2_with fail;go_end0;exact⟨rfl,by rw[E.out];exact(H.out.put (j:=8) (show 8<12 from by decide) _ rfl)⟩
     |false=>
      cases e5:(word==[105,110])with
      |true=>
       rw[e0]at q0;rw[e1]at q1;rw[e2]at q2;rw[e3]at q3;rw[e4]at q4;rw[e5]at q5;cases no with
       |true=>
        have E:Hid (ifCmd x word true p=({ x with inn:=[] },p)):=hid (by unfold ifCmd;rw[e0,e1,e2,e3,e4,e5];rfl);obtain⟨v9,c9⟩:=H.out.cell (j:=9) (show 9<12 from by decide);go_enter Tryz.func156,Tryz.ntmps156;go_wp2_with fail;go_end0;exact⟨rfl,by rw[E.out];exact(H.out.put (j:=9) (show 9<12 from by decide) _ rfl)⟩
       |false=>
        have E:Hid (ifCmd x word false p=({ x with inn:=nmV p },nmS p)):=hid (by unfold ifCmd;rw[e0,e1,e2,e3,e4,e5];rfl);obtain⟨v9,c9⟩:=H.out.cell (j:=9) (show 9<12 from by decide);go_enter Tryz.func156,Tryz.ntmps156;go_wp2_with fail;refine(zGu b B p _ (H.out.put (j:=9) (show 9<12 from by decide) _ rfl).st).mono ?_;rintro e w1 ⟨rfl,h1,k1⟩;have H1:=hid ((H.out.put (j:=9) (show 9<12 from by decide) _ rfl).word h1 k1);have f1:=H1.out.frz;clear h1 k1;unfold strV;obtain⟨v9,c9⟩:=H1.out.cell (j:=9) (show 9<12 from by decide);go_wp2_with fail;go_end0;exact⟨rfl,by rw[E.out];exact(H1.out.put (j:=9) (show 9<12 from by decide) _ rfl)⟩
      |false=>
       cases e6:(word==[111,117,116])with
       |true=>
        rw[e0]at q0;rw[e1]at q1;rw[e2]at q2;rw[e3]at q3;rw[e4]at q4;rw[e5]at q5;rw[e6]at q6;cases no with
        |true=>
         have E:Hid (ifCmd x word true p=({ x with out:=[] },p)):=hid (by unfold ifCmd;rw[e0,e1,e2,e3,e4,e5,e6];rfl);obtain⟨v10,c10⟩:=H.out.cell (j:=10) (show 10<12 from by decide);go_enter Tryz.func156,Tryz.ntmps156;go_wp2_with fail;go_end0;exact⟨rfl,by rw[E.out];exact(H.out.put (j:=10) (show 10<12 from by decide) _ rfl)⟩
        |false=>
         have E:Hid (ifCmd x word false p=({ x with out:=nmV p },nmS p)):=hid (by unfold ifCmd;rw[e0,e1,e2,e3,e4,e5,e6];rfl);obtain⟨v10,c10⟩:=H.out.cell (j:=10) (show 10<12 from by decide);go_enter Tryz.func156,Tryz.ntmps156;go_wp2_with fail;refine(zGu b B p _ (H.out.put (j:=10) (show 10<12 from by decide) _ rfl).st).mono ?_;rintro e w1 ⟨rfl,h1,k1⟩;have H1:=hid ((H.out.put (j:=10) (show 10<12 from by decide) _ rfl).word h1 k1);have f1:=H1.out.frz;clear h1 k1;unfold strV;obtain⟨v10,c10⟩:=H1.out.cell (j:=10) (show 10<12 from by decide);go_wp2_with fail;go_end0;exact⟨rfl,by rw[E.out];exact(H1.out.put (j:=10) (show 10<12 from by decide) _ rfl)⟩
       |false=>
        cases e7:(word==[115,105,100,101])with
        |true=>
         rw[e0]at q0;rw[e1]at q1;rw[e2]at q2;rw[e3]at q3;rw[e4]at q4;rw[e5]at q5;rw[e6]at q6;rw[e7]at q7;cases no with
         |true=>
          have E:Hid (ifCmd x word true p=({ x with side:=0 },p)):=hid (by unfold ifCmd;rw[e0,e1,e2,e3,e4,e5,e6,e7];rfl);obtain⟨v11,c11⟩:=H.out.cell (j:=11) (show 11<12 from by decide);go_enter Tryz.func156,Tryz.ntmps156;go_wp2_with fail;go_end0;exact⟨rfl,by rw[E.out];exact(H.out.put (j:=11) (show 11<12 from by decide) _ rfl)⟩
         |false=>
          cases c:chB [105,110,115,105,100,101] [111,117,116,115,105,100,101] p with
          |true=>
           have HC:=hid c;have E:Hid (ifCmd x word false p=({ x with side:=1 },chS [105,110,115,105,100,101] [111,117,116,115,105,100,101] p)):=hid (by unfold ifCmd;rw[e0,e1,e2,e3,e4,e5,e6,e7,c];rfl);obtain⟨v11,c11⟩:=H.out.cell (j:=11) (show 11<12 from by decide);go_enter Tryz.func156,Tryz.ntmps156;go_wp2_with fail;refine(wchoice_any b B p [105,110,115,105,100,101] [111,117,116,115,105,100,101] _ ((H.out.put (j:=11) (show 11<12 from by decide) _ rfl).put (j:=11) (show 11<12 from by decide) _ rfl).st).mono ?_;rintro e w1 ⟨rfl,h1,k1⟩;have H1:=hid (((H.out.put (j:=11) (show 11<12 from by decide) _ rfl).put (j:=11) (show 11<12 from by decide) _ rfl).word h1 k1);have f1:=H1.out.frz;clear h1 k1;rw[HC.out];obtain⟨v11,c11⟩:=H1.out.cell (j:=11) (show 11<12 from by decide);go_wp2_with fail;go_end0;exact⟨rfl,by rw[E.out];exact(H1.out.put (j:=11) (show 11<12 from by decide) _ rfl)⟩
          |false=>
           have HC:=hid c;have E:Hid (ifCmd x word false p=({ x with side:=2 },chS [105,110,115,105,100,101] [111,117,116,115,105,100,101] p)):=hid (by unfold ifCmd;rw[e0,e1,e2,e3,e4,e5,e6,e7,c];rfl);obtain⟨v11,c11⟩:=H.out.cell (j:=11) (show 11<12 from by decide);go_enter Tryz.func156,Tryz.ntmps156;go_wp2_with fail;refine(wchoice_any b B p [105,110,115,105,100,101] [111,117,116,115,105,100,101] _ ((H.out.put (j:=11) (show 11<12 from by decide) _ rfl).put (j:=11) (show 11<12 from by decide) _ rfl).st).mono ?_;rintro e w1 ⟨rfl,h1,k1⟩;have H1:=hid (((H.out.put (j:=11) (show 11<12 from by decide) _ rfl).put (j:=11) (show 11<12 from by decide) _ rfl).word h1 k1);have f1:=H1.out.frz;clear h1 k1;rw[HC.out];go_wp2_with fail;go_end0;exact⟨rfl,by rw[E.out];exact H1.out⟩
        |false=>
         rw[e0]at q0;rw[e1]at q1;rw[e2]at q2;rw[e3]at q3;rw[e4]at q4;rw[e5]at q5;rw[e6]at q6;rw[e7]at q7;have E:Hid (ifCmd x word no p=(x,p)):=hid (by unfold ifCmd;rw[e0,e1,e2,e3,e4,e5,e6,e7];rfl);go_enter Tryz.func156,Tryz.ntmps156;go_wp2_with fail;go_end0;exact⟨rfl,by rw[E.out];exact H.out⟩
end Go.Proofs.YthcnojmldldpeaaGreatDoor
namespace Go.Proofs.YthcnojmldldpeaaGreatDoor
open Lib (hid)
open Go.RowKit Go.Shelf
def idxF{α:Type}(p:α→Bool):List α→Nat→Int
 |[],_ => -1
 |y :: r,i=>if p y then(i:Int)else idxF p r (i+1)
theorem idxF_lib{α:Type}(p:α→Bool)(d:α):∀(l:List α) (i:Nat),Lib.idxByFrom (fun _ y=>p y) d l i=idxF p l i
 |[],_=>rfl
 |y :: r,i=>by unfold Lib.idxByFrom idxF;rw[idxF_lib p d r (i+1)]
theorem idxF_take{α:Type}(p:α→Bool)(d:α)(l:List α):Lib.idxBy (fun _ y=>p y) (l.take l.length) d=idxF p l 0:=by
 rw[List.take_length];exact idxF_lib p d l 0
theorem idxF_bd{α:Type}(p:α→Bool):∀(l:List α) (i:Nat), -1≤idxF p l i∧idxF p l i<(i+l.length:Nat)
 |[],i=>⟨Int.le_refl _,by unfold idxF;omega⟩
 |y :: r,i=>by
  unfold idxF;have:=idxF_bd p r (i+1);split
  ·exact⟨by omega,by simp only[List.length_cons];omega⟩
  ·exact⟨this.1,by simp only[List.length_cons]at this⊢;omega⟩
theorem SlV.cells{α:Type}[Inhabited α]{w:World}{B n:Nat}{cells:α→Array Value}{v:Value}{xs:List α}(hn:0<n)(hl:∀x,(cells x).toList.length=n)(h:SlV w B n cells v xs) :
  xs=[]∨∃g o c,v=.slice (some ⟨g,o,none⟩) xs.length c∧g<B∧∀j,j<xs.length→∀i u,((cells xs[j]!).toList)[i]? = some u→w.cell? ⟨g,o+j*n+i,none⟩=some u:=by
 cases xs with
 |nil=>exact .inl rfl
 |cons y r=>
  right
  obtain⟨A,c,rfl,_,A', c', e,_,_,_,h⟩:=h;injection e with e1 e2 e3
  subst e1;obtain⟨g,o,rfl,hg,hc⟩:=h (by simp);refine⟨g,o,c,rfl,hg,fun j hj i u hu=>?_⟩
  have hi:i<n:=by
   rcases Nat.lt_or_ge i n with h' | h'
   ·exact h'
   ·rw[List.getElem?_eq_none (by rw[hl];exact h')]at hu;cases hu
  rw[Nat.add_assoc];refine hc (j*n+i) u ?_;rw[zFq (fun x=>(cells x).toList) hn hl,Nat.mul_comm j n,Nat.mul_add_div hn,Nat.div_eq_of_lt hi,Nat.add_zero,Nat.mul_add_mod,Nat.mod_eq_of_lt hi,List.getElem?_eq_getElem hj];rw[getElem!_pos (y :: r) j hj]at hu;exact hu
theorem SlV.elem{α:Type}{w:World}{B n:Nat}{cells:α→Array Value}{v:Value}{xs:List α}(hn:0<n)(hl:∀x,(cells x).toList.length=n)(h:SlV w B n cells v xs){k:Nat}(hk:k<xs.length) :
  ∃g o c,v=.slice (some ⟨g,o,none⟩) xs.length c∧xs.length≤c∧g<B∧w.rangeAt g (o+k*n) (cells xs[k]).toList:=by
 obtain⟨A,c,rfl,hle,A', c', e,_,_,_,h⟩:=h;injection e with e1 e2 e3
 subst e1;obtain⟨g,o,rfl,hg,hc⟩:=h (by omega);refine⟨g,o,c,rfl,hle,hg,fun i u hu=>?_⟩
 have hi:i<n:=by
  rcases Nat.lt_or_ge i n with h' | h'
  ·exact h'
  ·rw[List.getElem?_eq_none (by rw[hl];exact h')]at hu;cases hu
 rw[Nat.add_assoc];refine hc (k*n+i) u ?_;rw[zFq (fun x=>(cells x).toList) hn hl,Nat.mul_comm k n,Nat.mul_add_div hn,Nat.div_eq_of_lt hi,Nat.add_zero,Nat.mul_add_mod,Nat.mod_eq_of_lt hi,List.getElem?_eq_getElem hk];exact hu
def zAb(n lo hi:Int):Bool:=decide (lo≤n)&&decide (n≤hi)
theorem zAr(n lo hi:Int)(w:World):Calls Tryz.prog 27 #[.int .i64 n,.int .i64 lo,.int .i64 hi] w fun e w' => e=.returned (.bool (zAb n lo hi))∧w=w' := by
 by_cases h1:lo≤n
 ·have E:Hid (zAb n lo hi=decide (n≤hi)):=hid (by simp[zAb,h1])
  go_enter Tryz.func27,Tryz.ntmps27;go_wp2_with fail
  all_goals (go_ret;exact⟨zAg (by rw[E.out];first|done|(simp;done)|(simp;omega)),rfl⟩)
 ·have E:Hid (zAb n lo hi=false):=hid (by simp[zAb,h1])
  go_enter Tryz.func27,Tryz.ntmps27;go_wp2;go_ret;exact⟨zAg E.out.symm,rfl⟩
theorem zKg{α:Type}[Inhabited α]{n k:Nat}{C:α→Array Value}{v:Value}{l:List α}{p:α→Bool}{F FI:FuncId}{r:Rt}{w:World}{B:Nat}(x:Value)(T0:TypeId)(hn:0<n)(hnl:∀y,(C y).toList.length=n)(hk:r.C[k]? = some v)(hB:B≤w.heap.size)(hl:SlV w B n C v l)
  (hz:∀(A:Option Addr) (c:Nat) (fv:Value) (w:World),Calls Tryz.prog FI #[.slice A 0 c,fv] w fun e w' => e=.returned (.int .i64 (-1))∧w=w')
  (hx:∀W:World,w.heap.size+1<W.heap.size→W.cell? ⟨w.heap.size+1,0,none⟩=some x→∀g o c,g<W.heap.size→l.length≤maxLen→(∀j,j<l.length→∀i u,((C l[j]!).toList)[i]? = some u→W.cell? ⟨g,o+j*n+i,none⟩=some u)→Calls Tryz.prog FI #[.slice (some ⟨g,o,none⟩) l.length c,.func (.func F) #[] #[.pointer (some ⟨w.heap.size+1,0,none⟩)]] W fun e w' => e=.returned (.int .i64 (Lib.idxBy (fun _ y=>p y) (l.take l.length) default))∧Below W.heap.size W w') :
  ((w.alloc (.cells r.C 41)).alloc (.cells #[x] T0)).cell? ⟨w.heap.size,k,none⟩=some v∧((w.alloc (.cells r.C 41)).alloc (.cells #[x] T0)).cell? ⟨w.heap.size+1,0,none⟩=some x∧Hid (Calls Tryz.prog FI #[v,.func (.func F) #[] #[.pointer (some ⟨w.heap.size+1,0,none⟩)]] ((w.alloc (.cells r.C 41)).alloc (.cells #[x] T0)) fun e w' => e=.returned (.int .i64 (idxF p l 0))∧Below w.heap.size w w'):=by
 have H1:HasC 41 w.heap.size r.C ((w.alloc (.cells r.C 41)).alloc (.cells #[x] T0)):=(HasC.new w 41 r.C).keep ((Below.refl _ _).alloc (Nat.le_refl _) _);have B0:=((Below.refl w.heap.size w).alloc (Nat.le_refl _) (.cells r.C 41)).alloc (by simp) (.cells #[x] T0)
 have c1:((w.alloc (.cells r.C 41)).alloc (.cells #[x] T0)).cell? ⟨w.heap.size+1,0,none⟩=some x:=by
  have:=zDf (w.alloc (.cells r.C 41)) #[x] T0 0;rw[show(w.alloc (.cells r.C 41)).heap.size=w.heap.size+1 from by simp]at this;exact this
 have hsz:((w.alloc (.cells r.C 41)).alloc (.cells #[x] T0)).heap.size=w.heap.size+2:=by simp
 have HS:=hl.below (B0.mono hB);refine⟨(H1.cell k).trans hk,c1,hid ?_⟩;rcases SlV.cells hn hnl HS with e|⟨g,o,c,e,hg,hc⟩
 ·obtain⟨A,c,e2,_⟩:=HS
  rw[e2,e];refine(hz A c _ _).mono ?_;rintro e w' ⟨rfl,rfl⟩;exact⟨rfl,B0⟩
 ·rw[e]
  refine(hx _ (by rw[hsz];omega) c1 g o c (by rw[hsz];omega) HS.len hc).mono ?_;rintro e w' ⟨rfl,hb⟩;exact⟨by rw[idxF_take],B0.trans (hb.mono B0.size)⟩
theorem ixIf_zero(A:Option Addr)(c:Nat)(fv:Value)(w:World):Calls Tryz.prog 119 #[.slice A 0 c,fv] w fun e w' => e=.returned (.int .i64 (-1))∧w=w' := by
 go_enter Tryz.func119,Tryz.ntmps119;go_wp2;go_loopg [8] 1 (fun _ ix wr=>ix=.int .i64 0∧w=wr);case atStart=>exact⟨rfl,rfl⟩
 case round=>
  obtain⟨rfl,rfl⟩:=hrel;go_wp2;go_ret;exact⟨rfl,rfl⟩
theorem Tryz.aggIf(w:World):(isAgg 68).run Tryz.prog w=.ok true w:=by kernel_rfl
theorem Tryz.szofIf(w:World):(Go.sizeOf 68).run Tryz.prog w=.ok 12 w:=by kernel_rfl
theorem predIf(name:List UInt8)(B:Nat)(w:World)(hB:B<w.heap.size)(hcell:w.cell? ⟨B,0,none⟩=some (.string (str name))) :
  PredBelow Tryz.prog 120 #[.pointer (some ⟨B,0,none⟩)] (fun(x:If)=>.agg x.C.toList.toArray) (fun x=>x.name==name) w:=fun W x hb=>by
 have hc:W.cell? ⟨B,0,none⟩=some (.string (str name)):=(hb.cell (p:=⟨B,0,none⟩) hB).trans hcell;have hc2:∀o,(W.alloc o).cell? ⟨B,0,none⟩=some (.string (str name)):=fun o=>(World.cell?_alloc_lt W o ⟨B,0,none⟩ (by show B<_;have:=hb.size;omega)).trans hc
 have hb2:=hid (fun o=>hb.alloc hb.size o);have E:Hid (((str x.name).toList==(str name).toList)=(x.name==name)):=hid (by rw[zAe,zAe]);show Calls Tryz.prog 120 #[.agg x.C,.pointer (some ⟨B,0,none⟩)] W _;unfold If.C strV;clear hcell hb hB;go_enter Tryz.func120,Tryz.ntmps120;go_wp2_with fail
 all_goals (go_ret;exact⟨zAg (by rw[←E.out];first|done|(simp_all;done)),hb2.out _⟩)
theorem zGs(r:Rt)(name:List UInt8)(w:World)(B:Nat)(h:r.at w B)(hB:B≤w.heap.size):Calls Tryz.prog 78 #[.agg r.C,.string (str name)] w fun e w' => e=.returned (.int .i64 (idxF (fun x=>x.name==name) r.ifs 0))∧Below w.heap.size w w' := by
 obtain⟨c0,c1,HK⟩:=zKg (r:=r) (C:=If.C) (n:=12) (v:=r.ifsV) (l:=r.ifs) (p:=fun x=>x.name==name) (k:=2) (.string (str name)) 9 (by decide) (fun _=>rfl) rfl hB h.hifs ixIf_zero (fun _ h1 h2 g o c hg hm hc=>Tryz.slices_IndexFunc_f119 12 Tryz.aggIf Tryz.szofIf (fun(x:If)=>x.C.toList) (fun _=>rfl) (fun x=>x.name==name) 120 _ (enters_of Tryz.func120 (by kernel_rfl) rfl) g o r.ifs.length c r.ifs _ (predIf name (w.heap.size+1) _ h1 h2) (Nat.le_refl _) hm hg hc);clear h;go_enter Tryz.func78,Tryz.ntmps78;go_wp2_with fail;refine HK.out.mono ?_;rintro e w' ⟨rfl,hb⟩;go_wp2;go_ret;exact⟨rfl,hb⟩
theorem ixPList_zero(A:Option Addr)(c:Nat)(fv:Value)(w:World):Calls Tryz.prog 124 #[.slice A 0 c,fv] w fun e w' => e=.returned (.int .i64 (-1))∧w=w' := by
 go_enter Tryz.func124,Tryz.ntmps124;go_wp2;go_loopg [8] 1 (fun _ ix wr=>ix=.int .i64 0∧w=wr);case atStart=>exact⟨rfl,rfl⟩
 case round=>
  obtain⟨rfl,rfl⟩:=hrel;go_wp2;go_ret;exact⟨rfl,rfl⟩
theorem Tryz.aggPList(w:World):(isAgg 49).run Tryz.prog w=.ok true w:=by kernel_rfl
theorem Tryz.szofPList(w:World):(Go.sizeOf 49).run Tryz.prog w=.ok 2 w:=by kernel_rfl
theorem predPList(name:List UInt8)(B:Nat)(w:World)(hB:B<w.heap.size)(hcell:w.cell? ⟨B,0,none⟩=some (.string (str name))) :
  PredBelow Tryz.prog 125 #[.pointer (some ⟨B,0,none⟩)] (fun(x:PList)=>.agg x.C.toList.toArray) (fun x=>x.name==name) w:=fun W x hb=>by
 have hc:W.cell? ⟨B,0,none⟩=some (.string (str name)):=(hb.cell (p:=⟨B,0,none⟩) hB).trans hcell;have hc2:∀o,(W.alloc o).cell? ⟨B,0,none⟩=some (.string (str name)):=fun o=>(World.cell?_alloc_lt W o ⟨B,0,none⟩ (by show B<_;have:=hb.size;omega)).trans hc
 have hb2:=hid (fun o=>hb.alloc hb.size o);have E:Hid (((str x.name).toList==(str name).toList)=(x.name==name)):=hid (by rw[zAe,zAe]);show Calls Tryz.prog 125 #[.agg x.C,.pointer (some ⟨B,0,none⟩)] W _;unfold PList.C strV;clear hcell hb hB;go_enter Tryz.func125,Tryz.ntmps125;go_wp2_with fail
 all_goals (go_ret;exact⟨zAg (by rw[←E.out];first|done|(simp_all;done)),hb2.out _⟩)
theorem zEb(r:Rt)(name:List UInt8)(w:World)(B:Nat)(h:r.at w B)(hB:B≤w.heap.size):Calls Tryz.prog 83 #[.agg r.C,.string (str name)] w fun e w' => e=.returned (.int .i64 (idxF (fun x=>x.name==name) r.lists 0))∧Below w.heap.size w w' := by
 obtain⟨c0,c1,HK⟩:=zKg (r:=r) (C:=PList.C) (n:=2) (v:=r.listsV) (l:=r.lists) (p:=fun x=>x.name==name) (k:=3) (.string (str name)) 9 (by decide) (fun _=>rfl) rfl hB h.hlists ixPList_zero (fun _ h1 h2 g o c hg hm hc=>Tryz.slices_IndexFunc_f124 2 Tryz.aggPList Tryz.szofPList (fun(x:PList)=>x.C.toList) (fun _=>rfl) (fun x=>x.name==name) 125 _ (enters_of Tryz.func125 (by kernel_rfl) rfl) g o r.lists.length c r.lists _ (predPList name (w.heap.size+1) _ h1 h2) (Nat.le_refl _) hm hg hc);clear h;go_enter Tryz.func83,Tryz.ntmps83;go_wp2_with fail;refine HK.out.mono ?_;rintro e w' ⟨rfl,hb⟩;go_wp2;go_ret;exact⟨rfl,hb⟩
theorem ixRMap_zero(A:Option Addr)(c:Nat)(fv:Value)(w:World):Calls Tryz.prog 126 #[.slice A 0 c,fv] w fun e w' => e=.returned (.int .i64 (-1))∧w=w' := by
 go_enter Tryz.func126,Tryz.ntmps126;go_wp2;go_loopg [8] 1 (fun _ ix wr=>ix=.int .i64 0∧w=wr);case atStart=>exact⟨rfl,rfl⟩
 case round=>
  obtain⟨rfl,rfl⟩:=hrel;go_wp2;go_ret;exact⟨rfl,rfl⟩
theorem Tryz.aggRMap(w:World):(isAgg 52).run Tryz.prog w=.ok true w:=by kernel_rfl
theorem Tryz.szofRMap(w:World):(Go.sizeOf 52).run Tryz.prog w=.ok 2 w:=by kernel_rfl
theorem predRMap(name:List UInt8)(B:Nat)(w:World)(hB:B<w.heap.size)(hcell:w.cell? ⟨B,0,none⟩=some (.string (str name))) :
  PredBelow Tryz.prog 127 #[.pointer (some ⟨B,0,none⟩)] (fun(x:RMap)=>.agg x.C.toList.toArray) (fun x=>x.name==name) w:=fun W x hb=>by
 have hc:W.cell? ⟨B,0,none⟩=some (.string (str name)):=(hb.cell (p:=⟨B,0,none⟩) hB).trans hcell;have hc2:∀o,(W.alloc o).cell? ⟨B,0,none⟩=some (.string (str name)):=fun o=>(World.cell?_alloc_lt W o ⟨B,0,none⟩ (by show B<_;have:=hb.size;omega)).trans hc
 have hb2:=hid (fun o=>hb.alloc hb.size o);have E:Hid (((str x.name).toList==(str name).toList)=(x.name==name)):=hid (by rw[zAe,zAe]);show Calls Tryz.prog 127 #[.agg x.C,.pointer (some ⟨B,0,none⟩)] W _;unfold RMap.C strV;clear hcell hb hB;go_enter Tryz.func127,Tryz.ntmps127;go_wp2_with fail
 all_goals (go_ret;exact⟨zAg (by rw[←E.out];first|done|(simp_all;done)),hb2.out _⟩)
theorem zFe(r:Rt)(name:List UInt8)(w:World)(B:Nat)(h:r.at w B)(hB:B≤w.heap.size):Calls Tryz.prog 85 #[.agg r.C,.string (str name)] w fun e w' => e=.returned (.int .i64 (idxF (fun x=>x.name==name) r.maps 0))∧Below w.heap.size w w' := by
 obtain⟨c0,c1,HK⟩:=zKg (r:=r) (C:=RMap.C) (n:=2) (v:=r.mapsV) (l:=r.maps) (p:=fun x=>x.name==name) (k:=4) (.string (str name)) 9 (by decide) (fun _=>rfl) rfl hB h.hmaps ixRMap_zero (fun _ h1 h2 g o c hg hm hc=>Tryz.slices_IndexFunc_f126 2 Tryz.aggRMap Tryz.szofRMap (fun(x:RMap)=>x.C.toList) (fun _=>rfl) (fun x=>x.name==name) 127 _ (enters_of Tryz.func127 (by kernel_rfl) rfl) g o r.maps.length c r.maps _ (predRMap name (w.heap.size+1) _ h1 h2) (Nat.le_refl _) hm hg hc);clear h;go_enter Tryz.func85,Tryz.ntmps85;go_wp2_with fail;refine HK.out.mono ?_;rintro e w' ⟨rfl,hb⟩;go_wp2;go_ret;exact⟨rfl,hb⟩
theorem ixAList_zero(A:Option Addr)(c:Nat)(fv:Value)(w:World):Calls Tryz.prog 128 #[.slice A 0 c,fv] w fun e w' => e=.returned (.int .i64 (-1))∧w=w' := by
 go_enter Tryz.func128,Tryz.ntmps128;go_wp2;go_loopg [8] 1 (fun _ ix wr=>ix=.int .i64 0∧w=wr);case atStart=>exact⟨rfl,rfl⟩
 case round=>
  obtain⟨rfl,rfl⟩:=hrel;go_wp2;go_ret;exact⟨rfl,rfl⟩
theorem Tryz.aggAList(w:World):(isAgg 55).run Tryz.prog w=.ok true w:=by kernel_rfl
theorem Tryz.szofAList(w:World):(Go.sizeOf 55).run Tryz.prog w=.ok 2 w:=by kernel_rfl
theorem predAList(name:List UInt8)(B:Nat)(w:World)(hB:B<w.heap.size)(hcell:w.cell? ⟨B,0,none⟩=some (.string (str name))) :
  PredBelow Tryz.prog 129 #[.pointer (some ⟨B,0,none⟩)] (fun(x:AList)=>.agg x.C.toList.toArray) (fun x=>x.name==name) w:=fun W x hb=>by
 have hc:W.cell? ⟨B,0,none⟩=some (.string (str name)):=(hb.cell (p:=⟨B,0,none⟩) hB).trans hcell;have hc2:∀o,(W.alloc o).cell? ⟨B,0,none⟩=some (.string (str name)):=fun o=>(World.cell?_alloc_lt W o ⟨B,0,none⟩ (by show B<_;have:=hb.size;omega)).trans hc
 have hb2:=hid (fun o=>hb.alloc hb.size o);have E:Hid (((str x.name).toList==(str name).toList)=(x.name==name)):=hid (by rw[zAe,zAe]);show Calls Tryz.prog 129 #[.agg x.C,.pointer (some ⟨B,0,none⟩)] W _;unfold AList.C strV;clear hcell hb hB;go_enter Tryz.func129,Tryz.ntmps129;go_wp2_with fail
 all_goals (go_ret;exact⟨zAg (by rw[←E.out];first|done|(simp_all;done)),hb2.out _⟩)
theorem aCL_any(r:Rt)(name:List UInt8)(w:World)(B:Nat)(h:r.at w B)(hB:B≤w.heap.size):Calls Tryz.prog 87 #[.agg r.C,.string (str name)] w fun e w' => e=.returned (.int .i64 (idxF (fun x=>x.name==name) r.acls 0))∧Below w.heap.size w w' := by
 obtain⟨c0,c1,HK⟩:=zKg (r:=r) (C:=AList.C) (n:=2) (v:=r.aclsV) (l:=r.acls) (p:=fun x=>x.name==name) (k:=5) (.string (str name)) 9 (by decide) (fun _=>rfl) rfl hB h.hacls ixAList_zero (fun _ h1 h2 g o c hg hm hc=>Tryz.slices_IndexFunc_f128 2 Tryz.aggAList Tryz.szofAList (fun(x:AList)=>x.C.toList) (fun _=>rfl) (fun x=>x.name==name) 129 _ (enters_of Tryz.func129 (by kernel_rfl) rfl) g o r.acls.length c r.acls _ (predAList name (w.heap.size+1) _ h1 h2) (Nat.le_refl _) hm hg hc);clear h;go_enter Tryz.func87,Tryz.ntmps87;go_wp2_with fail;refine HK.out.mono ?_;rintro e w' ⟨rfl,hb⟩;go_wp2;go_ret;exact⟨rfl,hb⟩
def hasA(a:Nat)(x:If):Bool:=!(x.len==0)&&x.addr==a
theorem predAdr(adr:Nat)(B:Nat)(w:World)(hB:B<w.heap.size)(hcell:w.cell? ⟨B,0,none⟩=some (.int .u32 (adr:Int))) :
  PredBelow Tryz.prog 149 #[.pointer (some ⟨B,0,none⟩)] (fun(x:If)=>.agg x.C.toList.toArray) (hasA adr) w:=fun W x hb=>by
 have hc:W.cell? ⟨B,0,none⟩=some (.int .u32 (adr:Int)):=(hb.cell (p:=⟨B,0,none⟩) hB).trans hcell;have hc2:∀o,(W.alloc o).cell? ⟨B,0,none⟩=some (.int .u32 (adr:Int)):=fun o=>(World.cell?_alloc_lt W o ⟨B,0,none⟩ (by show B<_;have:=hb.size;omega)).trans hc
 have hb2:=hid (fun o=>hb.alloc hb.size o);have E:Hid (hasA adr x=(!(x.len==0)&&x.addr==adr)):=hid rfl;show Calls Tryz.prog 149 #[.agg x.C,.pointer (some ⟨B,0,none⟩)] W _;obtain⟨name,addr,len,vlan,down,ls,area,cost,dv,inn,out,side⟩:=x;unfold If.C strV;dsimp only at E⊢;clear hcell hb hB;by_cases h1:len=0
 ·subst h1
  go_enter Tryz.func149,Tryz.ntmps149;go_wp2;go_ret;exact⟨zAg (by rw[E.out];rfl),hb2.out _⟩
 ·have d1:(len != 0)=true:=by simpa using h1
  have d2:(len==0)=false:=by simpa using h1
  have d3:((addr:Int)==(adr:Int))=(addr==adr):=by rw[Bool.eq_iff_iff];simp;omega
  go_enter Tryz.func149,Tryz.ntmps149;go_wp2;go_ret;exact⟨zAg (by rw[E.out,d2,←d3];first|rfl|(simp;done)),hb2.out _⟩
theorem address_any(r:Rt)(adr:Nat)(w:World)(B:Nat)(h:r.at w B)(hB:B≤w.heap.size):Calls Tryz.prog 131 #[.agg r.C,.int .u32 (adr:Int)] w fun e w' => e=.returned (.int .i64 (idxF (hasA adr) r.ifs 0))∧Below w.heap.size w w' := by
 have H0:=HasC.new w 41 r.C;have H1:HasC 41 w.heap.size r.C ((w.alloc (.cells r.C 41)).alloc (.cells #[.int .u32 (adr:Int)] 66)):=H0.keep ((Below.refl _ _).alloc (Nat.le_refl _) _);have B0:=((Below.refl w.heap.size w).alloc (Nat.le_refl _) (.cells r.C 41)).alloc (by simp) (.cells #[.int .u32 (adr:Int)] 66)
 have c1:((w.alloc (.cells r.C 41)).alloc (.cells #[.int .u32 (adr:Int)] 66)).cell? ⟨w.heap.size+1,0,none⟩=some (.int .u32 (adr:Int)):=by
  have:=zDf (w.alloc (.cells r.C 41)) #[.int .u32 (adr:Int)] 66 0;rw[show(w.alloc (.cells r.C 41)).heap.size=w.heap.size+1 from by simp]at this;exact this
 have c0:=cl2 H1;have hsz:((w.alloc (.cells r.C 41)).alloc (.cells #[.int .u32 (adr:Int)] 66)).heap.size=w.heap.size+2:=by simp
 have HS:=h.hifs.below (B0.mono hB)
 have K:Calls Tryz.prog 119 #[r.ifsV,.func (.func 149) #[] #[.pointer (some ⟨w.heap.size+1,0,none⟩)]] ((w.alloc (.cells r.C 41)).alloc (.cells #[.int .u32 (adr:Int)] 66)) fun e w' => e=.returned (.int .i64 (idxF (hasA adr) r.ifs 0))∧Below w.heap.size w w' := by
  rcases SlV.cells (n:=12) (by decide) (fun _=>rfl) HS with e|⟨g,o,c,e,hg,hc⟩
  ·obtain⟨A,c,e2,_⟩:=HS
   rw[e2,e];refine(ixIf_zero A c _ _).mono ?_;rintro e w' ⟨rfl,rfl⟩;exact⟨rfl,B0⟩
  ·rw[e]
   have eg:∀args w,(callFunc 149 args).run Tryz.prog w=.ok (.enter 149 args) w:=enters_of Tryz.func149 (by kernel_rfl) rfl;have hm:=HS.len;refine(Tryz.slices_IndexFunc_f119 12 Tryz.aggIf Tryz.szofIf (fun(x:If)=>x.C.toList) (fun _=>rfl) (hasA adr) 149 _ eg g o r.ifs.length c r.ifs _ (predAdr adr (w.heap.size+1) _ (by rw[hsz];omega) c1) (Nat.le_refl _) (by simp only[maxLen]at hm;omega) (by rw[hsz];omega) hc).mono ?_;rintro e w' ⟨rfl,hb⟩;exact⟨by rw[idxF_take],B0.trans (hb.mono B0.size)⟩
 have HK:=hid K;clear K HS H0 H1 h;go_enter Tryz.func131,Tryz.ntmps131;go_wp2_with fail;refine HK.out.mono ?_;rintro e w' ⟨rfl,hb⟩;go_wp2;go_ret;exact⟨rfl,hb⟩
theorem info_cells{P:Program}{T:TypeId}{k m b:Nat}(h:(P.info? T).map (fun i=>(i.zero.map (fun z=>z.cells.size),i.size,i.bytes))=some (some k,m,b)) :
  ∃i z,P.info? T=some i∧i.zero=some z∧z.cells.size=k∧i.size=m∧i.bytes=b:=by
 obtain⟨i,hi,h2⟩:=Option.map_eq_some_iff.1 h;simp only[Prod.mk.injEq]at h2;obtain⟨z,hz,h3⟩:=Option.map_eq_some_iff.1 h2.1;exact⟨i,z,hi,hz,h3,h2.2.1,h2.2.2⟩
section
variable {P : Program} {ops : Array Oper} {rest : List Oper} {o : Oper} {a : Act} {w : World} {Q : Exit → Act → World → Prop}
theorem wpList_build1(hgd:o.guard=none)(t e:TypeId)(x:Operand)(ho:o.op=.buildSlice t 1 #[(0,x)]){i:TypeInfo}{z:Value}{n:Nat}(hu:P.underlying t=some (.slice e))(hi:P.info? e=some i)(hz:i.zero=some z)
  (hs:i.size=n) (hn:0<n) (hn2:n≤1000) {cs:Array Value} (hc:cs.size=n) (hx:a.eval x=.agg cs)
  (h:wpList P ops Q rest (a.put o.dst (.slice (some ⟨w.heap.size,0,none⟩) 1 1)) (w.alloc (.cells cs e))):wpList P ops Q (o :: rest) a w:=by
 refine wpList_buildSlice hgd t e 1 #[(0,x)] ho cs i z hu hi hz (by rw[hs];omega) (by rw[hs];omega) ?_ h;rw[hs];simp only[List.map_toArray,List.map_cons,List.map_nil,hx];have:=Great.fill_whole (s:=n) hn [.agg cs] (Array.map (fun x=>z.cells[x % z.cells.size]!) (Array.range (1*n))) (fun v hv=>by obtain rfl:=List.mem_singleton.1 hv;exact hc) (by simp);refine this.trans ?_;simp[Value.cells]
theorem wpList_append1h(w:World)(hgd:o.guard=none)(s x:Operand)(t:TypeId)
  (ho:o.op=.call { callee:=.builtin .append,args:=#[s,x],argTypes:=#[t,t] })
  (base:Nat) (e:TypeId) (i:TypeInfo) (z:Value) (size bts:Nat) (ht:P.underlying t=some (.slice e)) (hi:P.info? e=some i) (hz:i.zero=some z)
  (hsize:i.size=size) (hby:i.bytes=bts) (hzs:z.cells.size=size) (hsz:0<size)
  (v:Value) (n:Nat) (xs:List Value) (hs:a.eval s=v) (hown:w.ownsRow base e size v n xs)
  (cs:Array Value) (hx:a.eval x=.slice (some ⟨w.heap.size,0,none⟩) 1 1) (hl:cs.size=size) (h1:∀u∈cs.toList,u.oneCell' = true)
  (hbytes:(n+1)*bts≤140737488355328) (hpos:1≤bts) (hbase:base≤w.heap.size)
  (h:∀v' w', w'.ownsRow base e size v' (n+1) (xs++cs.toList)→w.grownBy w' v.ownBlock→(v'.ownBlock=v.ownBlock∨v'.ownBlock=some (w.heap.size+1))→wpList P ops Q rest (a.put o.dst v') w') :
  wpList P ops Q (o :: rest) a (w.alloc (.cells cs e)):=by
 refine wpList_append_own_at _ hgd s x t ho base e i z size bts ht hi hz hsize hby hzs hsz v n xs hs (hown.alloc _) ⟨w.heap.size,0,none⟩ 1 1 cs.toList hx (by simp[hl]) ?_ h1 ?_ hbytes (by simp;omega) ?_
 ·intro j u hu
  rw[zHz];simpa using hu
 ·have:=Nat.le_mul_of_pos_right (n+1) hpos
  simp only[maxLen];omega
 ·intro v' w' hown' hg _ hat
  refine h v' w' hown' ?_ (by simpa using hat);exact⟨hg.os,hg.tape,hg.output,Nat.le_trans (by simp) hg.size,fun k hk hne=>(hg.block k (by simp;omega) hne).trans (Below.heap_alloc w _ k hk)⟩
end
def EPost{α:Type}(B:Nat)(T:TypeId)(n:Nat)(cells:α→Array Value)(v:Value)(l' : List α)(w:World)(e:Ending)(w' : World):Prop :=
 ∃v', e=.returned v' ∧ OwnE w' B T n cells v' l' ∧ (v'.ownBlock=v.ownBlock∨v'.ownBlock=none∨∃k,v'.ownBlock=some k∧w.heap.size≤k)∧w.grownBy w' v.ownBlock
theorem replL_idx{α:Type}(p:α→Bool)(x:α):∀(l:List α) (i:Nat),(idxF p l i = -1∧replL p x l=l++[x])∨∃k,idxF p l i=((i+k:Nat):Int)∧k<l.length∧replL p x l=zDb l k x
 |[],i=>.inl ⟨rfl,rfl⟩
 |y :: r,i=>by
  unfold idxF replL;cases h:p y with
  |true=>exact .inr ⟨0,by simp,by simp,by simp[zDb]⟩
  |false=>
   rcases replL_idx p x r (i+1)with⟨h1,h2⟩|⟨k,h1,h2,h3⟩
   ·exact .inl ⟨by simpa using h1,by simp[h2]⟩
   ·refine .inr ⟨k+1,?_,by simp only[List.length_cons];omega,?_⟩
    ·simp only[Bool.false_eq_true,if_false];rw[h1];congr 1;omega
    ·simp only[Bool.false_eq_true,if_false];rw[h3];simp[zDb]
theorem OwnE.snoc{α:Type}{w:World}{B n:Nat}{T:TypeId}{cells:α→Array Value}{v:Value}{l:List α}{x:α}(h:w.ownsRow B T n v (l.length+1) ((l.flatMap fun x=>(cells x).toList)++(cells x).toList)):OwnE w B T n cells v (l++[x]):=by
 unfold OwnE;simpa using h
theorem Part.there{E:TypeId}{g o:Nat}{cur cs:Array Value}{w:World}(h:Part E g o cur cs w):w.there g o cs.size:=by
 intro j hj;refine⟨?_,h.frz j⟩;rw[h.cell hj,Array.getElem?_eq_getElem hj];rfl
theorem setAll_again(a b:List Value)(o:Nat)(cur:Array Value)(h:a.length=b.length):zEh (zEh cur o a) o b=zEh cur o b:=by
 apply Array.ext_getElem?;intro k;rw[zDk,zDk,zDk,zGm,h];split<;>rfl
def PredC{α:Type}(P:Program)(g:Nat)(lb:Array Value)(enc:α→Value)(p:α→Bool)(cb:List Nat)(w:World):Prop :=
 (∀c∈cb,c<w.heap.size)∧∀(W:World) (x:α),(∀c∈cb,W.heap[c]? = w.heap[c]?)→Calls P g (#[enc x]++lb) W fun e w' => e=.returned (.bool (p x))∧Below W.heap.size W w'
theorem PredC.below{α:Type}{P:Program}{g:Nat}{lb:Array Value}{enc:α→Value}{p:α→Bool}{cb:List Nat}{w:World}(h:PredC P g lb enc p cb w):PredBelow P g lb enc p w :=
 fun W x hb=>(h.2 W x (fun c hc=>hb.block c (h.1 c hc))).mono fun _ _ q=>⟨q.1,hb.trans (q.2.mono hb.size)⟩
theorem PredC.later{α:Type}{P:Program}{g:Nat}{lb:Array Value}{enc:α→Value}{p:α→Bool}{cb:List Nat}{w w' : World}(h:PredC P g lb enc p cb w)(hf:∀c∈cb,w'.heap[c]? = w.heap[c]?)(hs:w.heap.size≤w'.heap.size):PredC P g lb enc p cb w' :=
 ⟨fun c hc=>Nat.lt_of_lt_of_le (h.1 c hc) hs,fun W x hW=>h.2 W x (fun c hc=>(hW c hc).trans (hf c hc))⟩
theorem PredC.on{α:Type}{P:Program}{g:Nat}{lb:Array Value}{enc:α→Value}{p:α→Bool}{cb:List Nat}{w w' : World}(h:PredC P g lb enc p cb w)(hb:Below w.heap.size w w'):PredC P g lb enc p cb w' :=
 h.later (fun c hc=>hb.block c (h.1 c hc)) hb.size
abbrev EG(g:Nat):Prop:=∀args w,(callFunc g args).run Tryz.prog w=.ok (.enter g args) w
structure KS (α:Type) (T S n b:Nat) (C:α→Array Value):Prop where
 row:(Tryz.prog.underlying T).map TypeDesc.isRow=some true
 size:(Tryz.prog.info? T).map (·.size)=some n
 one:∀x,(C x).all (·.oneCell')=true
 info:(Tryz.prog.info? T).map (fun i=>(i.zero.map (fun z=>z.cells.size),i.size,i.bytes))=some (some n,n,b)
 sl:Tryz.prog.underlying S=some (.slice T)
 agg:∀w,(isAgg T).run Tryz.prog w=.ok true w
 szof:∀w,(Go.sizeOf T).run Tryz.prog w=.ok n w
 zero:(Tryz.prog.info? T).map (fun i=>i.zero.map (fun z=>z.cells.toList.all (·.oneCell')))=some (some true)
section
variable {α : Type} {T S n b : Nat} {C : α → Array Value}
theorem KS.there{w:World}{g o:Nat}{cur:Array Value}{x:α}(_:KS α T S n b C)(hl:∀x,(C x).toList.length=n)(h:Part T g o cur (C x) w):w.there g o n:=by
 have:=h.there
 rwa [←Array.length_toList,hl x]at this
theorem KS.new(_:KS α T S n b C)(w:World)(x:α):Hid (Below w.heap.size w (w.alloc (.cells (C x) T))∧HasC T w.heap.size (C x) (w.alloc (.cells (C x) T))∧∀w1 r,Below (w.alloc (.cells (C x) T)).heap.size (w.alloc (.cells (C x) T)) w1→w.grownBy w1 r) :=
 hid ⟨(Below.refl _ w).alloc (Nat.le_refl _) _,HasC.new w T (C x),fun w1 r hb1=>zEj (World.grownBy_alloc w (.cells (C x) T) r) (hb1.mono (by simp))⟩
theorem KS.put{w:World}{g o:Nat}{cur:Array Value}{y:α}(_:KS α T S n b C)(hl:∀x,(C x).toList.length=n)(h:Part T g o cur (C y) w)(x:α):HasC T g (zEh cur o (C x).toList) (w.setCells g o (C x).toList):=by
 have hh:=zEo (C x).toList o _ w h.1
 rwa [setAll_again (C y).toList (C x).toList o cur (by rw[hl,hl])]at hh
theorem OwnE.row{w:World}{B:Nat}{v:Value}{l:List α}(h:OwnE w B T n C v l):w.ownsRow B T n v l.length (l.flatMap fun x=>(C x).toList):=h
end
theorem kSr:KS Sr 109 27 7 64 Sr.C:=⟨by kernel_rfl,by kernel_rfl,fun x=>Sr.one x,by kernel_rfl,Tryz.underlying27,fun w=>by kernel_rfl,fun w=>by kernel_rfl,by kernel_rfl⟩
abbrev ZSt(F:Nat):Prop:=∀(A:Option Addr) (c:Nat) (fv:Value) (w:World),Calls Tryz.prog F #[.slice A 0 c,fv] w fun e w' => e=.returned (.int .i64 (-1))∧w=w'
theorem ix_zero:(Tryz.prog.funcs[225]? = some Tryz.f225→ZSt 225)∧(Tryz.prog.funcs[233]? = some Tryz.f233→ZSt 233)∧(Tryz.prog.funcs[234]? = some Tryz.f234→ZSt 234)∧(Tryz.prog.funcs[261]? = some Tryz.f261→ZSt 261)∧(Tryz.prog.funcs[262]? = some Tryz.f262→ZSt 262)∧(Tryz.prog.funcs[260]? = some Tryz.f260→ZSt 260)∧(Tryz.prog.funcs[211]? = some Tryz.f211→ZSt 211)∧(Tryz.prog.funcs[119]? = some Tryz.f119→ZSt 119)∧(Tryz.prog.funcs[243]? = some Tryz.f243→ZSt 243)∧(Tryz.prog.funcs[247]? = some Tryz.f247→ZSt 247)∧(Tryz.prog.funcs[251]? = some Tryz.f251→ZSt 251):=by
 refine⟨?_,?_,?_,?_,?_,?_,?_,?_,?_,?_,?_⟩
 all_goals
  intro hf A c fv w;refine calls_of_wp hf rfl ?_;clear hf;simp only[Tryz.ntmps225,Tryz.ntmps233,Tryz.ntmps234,Tryz.ntmps261,Tryz.ntmps262,Tryz.ntmps260,Tryz.ntmps211,Tryz.ntmps119,Tryz.ntmps243,Tryz.ntmps247,Tryz.ntmps251,List.size_toArray,List.length_cons,List.length_nil,Nat.reduceAdd,Nat.reduceSub,Array.replicate_succ,Array.replicate_zero,List.push_toArray,List.append_toArray,List.nil_append,List.cons_append];go_wp2;go_loopg [8] 1 (fun _ ix wr=>ix=.int .i64 0∧w=wr);case atStart=>exact⟨rfl,rfl⟩
  case round=>
   obtain⟨rfl,rfl⟩:=hrel;go_wp2;go_ret;exact⟨rfl,rfl⟩
abbrev IdxSt(α:Type)[Inhabited α](k F:Nat):Prop:=∀(enc:α→List Value),(∀x,(enc x).length=k)→∀(p:α→Bool) (g:Nat) (lb:Array Value),EG g→∀(b off n c:Nat) (zs:List α) (w:World),PredBelow Tryz.prog g lb (fun x=>.agg (enc x).toArray) p w→n≤zs.length→n≤9223372036854775807→b<w.heap.size →
 (∀j,j<zs.length→∀i v,(enc zs[j]!)[i]? = some v→w.cell? ⟨b,off+j*k+i,none⟩=some v)→Calls Tryz.prog F #[.slice (some ⟨b,off,none⟩) n c,.func (.func g) #[] lb] w fun e w' => e=.returned (.int .i64 (Lib.idxBy (fun _ y=>p y) (zs.take n) default))∧Below w.heap.size w w'
abbrev IxSt(α:Type)(n F:Nat)(C:α→Array Value):Prop:=∀(v:Value) (l:List α) (p:α→Bool) (g:Nat) (lb:Array Value),EG g→∀w:World,SlV w w.heap.size n C v l→PredBelow Tryz.prog g lb (fun(x:α)=>.agg (C x).toList.toArray) p w →
 Calls Tryz.prog F #[v,.func (.func g) #[] lb] w fun e w' => e=.returned (.int .i64 (idxF p l 0))∧Below w.heap.size w w'
theorem ix_gen{α:Type}[Inhabited α]{n F:Nat}{C:α→Array Value}(hn:0<n)(hC:∀x,(C x).toList.length=n)(Z:ZSt F)(H:IdxSt α n F):IxSt α n F C:=by
 intro v l p g lb eg w HS hp;rcases SlV.cells (n:=n) hn hC HS with e|⟨g', o,c,e,hg,hc⟩
 ·obtain⟨A,c,e2,_⟩:=HS
  rw[e2,e];refine(Z A c _ _).mono ?_;rintro e w' ⟨rfl,rfl⟩;exact⟨rfl,Below.refl _ _⟩
 ·rw[e]
  have hm:=HS.len;refine(H (fun x=>(C x).toList) hC p g lb eg g' o l.length c l w hp (Nat.le_refl _) (by simp only[maxLen]at hm;omega) hg hc).mono ?_;rintro e w' ⟨rfl,hb⟩;exact⟨by rw[idxF_take],hb⟩
theorem ixASr_any:IxSt Sr 7 211 Sr.C:=ix_gen (by decide) (fun _=>rfl) (ix_zero.2.2.2.2.2.2.1 Tryz.func211) (Tryz.slices_IndexFunc_f211 7 kSr.agg kSr.szof)
abbrev RepSt(α:Type)(T n F:Nat)(C:α→Array Value):Prop:=∀(B:Nat) (v:Value) (l:List α) (x:α) (p:α→Bool) (g:Nat) (lb:Array Value),EG g→∀w:World,OwnE w B T n C v l→B≤w.heap.size→∀cb:List Nat,PredC Tryz.prog g lb (fun(x:α)=>.agg (C x).toList.toArray) p cb w→l.length≤1000000000 →
 Calls Tryz.prog F #[v,.agg (C x),.func (.func g) #[] lb] w (EPost B T n C v (replL p x l) w)
theorem rep_all:(KS AR 112 28 3 24 AR.C→Tryz.prog.funcs[190]? = some Tryz.f190→IxSt AR 3 225 AR.C→RepSt AR 112 3 190 AR.C) ∧
  (KS Pf 90 35 2 16 Pf.C→Tryz.prog.funcs[195]? = some Tryz.f195→IxSt Pf 2 233 Pf.C→RepSt Pf 90 2 195 Pf.C) ∧
  (KS Ag 117 36 3 24 Ag.C→Tryz.prog.funcs[198]? = some Tryz.f198→IxSt Ag 3 234 Ag.C→RepSt Ag 117 3 198 Ag.C) ∧
  (KS Nb 115 34 4 48 Nb.C→Tryz.prog.funcs[232]? = some Tryz.f232→IxSt Nb 4 261 Nb.C→RepSt Nb 115 4 232 Nb.C) ∧
  (KS Cd 119 37 5 40 Cd.C→Tryz.prog.funcs[237]? = some Tryz.f237→IxSt Cd 5 262 Cd.C→RepSt Cd 119 5 237 Cd.C) ∧
  (KS Rd 149 29 5 48 Rd.C→Tryz.prog.funcs[229]? = some Tryz.f229→IxSt Rd 5 260 Rd.C→RepSt Rd 149 5 229 Rd.C) ∧
  (KS Sr 109 27 7 64 Sr.C→Tryz.prog.funcs[220]? = some Tryz.f220→IxSt Sr 7 211 Sr.C→RepSt Sr 109 7 220 Sr.C):=by
 refine⟨?_,?_,?_,?_,?_,?_,?_⟩
 all_goals
  intro K hf X B v l x p g lb eg w h hB cb hp hl;obtain⟨i0,z0,hi0,hz0,hk0,hs0,hb0⟩:=info_cells K.info;have Hi0:=hid hi0;have Hz0:=hid hz0;have Hk0:=hid hk0;have Hs0:=hid hs0;have Hb0:=hid hb0;clear hi0 hz0 hk0 hs0 hb0;obtain⟨B0,H0,HN⟩:=(K.new w x).out;have H0:=hid H0;have h0:=hid (h.below B0);have HI:=hid (X v l p g lb eg _ h0.out.slv (hp.on B0).below);have HN:=hid HN;have H1' := hid (K.one x);clear B0 hp;rcases replL_idx p x l 0 with⟨e1,e2⟩|⟨k,e1,hk,e2⟩
  all_goals
   rw[e1]at HI;rw[e2];clear e1 e2 h;refine calls_of_wp hf rfl ?_;clear hf;simp only[Tryz.ntmps190,Tryz.ntmps195,Tryz.ntmps198,Tryz.ntmps232,Tryz.ntmps237,Tryz.ntmps229,Tryz.ntmps220,List.size_toArray,List.length_cons,List.length_nil,Nat.reduceAdd,Nat.reduceSub,Array.replicate_succ,Array.replicate_zero,List.push_toArray,List.append_toArray,List.nil_append,List.cons_append];go_wp2_with fail;refine HI.out.mono ?_;rintro e w1 ⟨rfl,hb1⟩;have x1:=hid (H0.out.keep hb1);have g1:=hid (HN.out w1 v.ownBlock hb1)
  ·have h1:=hid (h0.out.below hb1).row
   have hz1:w.heap.size+1≤w1.heap.size:=by have:=hb1.size;simpa using this
   clear hb1;go_wp2_with (first|(refine zAa rfl _ _ rfl rfl x1.out.range K.row K.size ?_)|(refine wpList_build1 rfl _ _ _ rfl K.sl Hi0.out Hz0.out Hs0.out (by decide) (by decide) (cs:=x.C) rfl rfl ?_)|(at_builtin;refine wpList_append1h w1 rfl _ _ _ rfl B _ i0 _ _ _ K.sl Hi0.out Hz0.out Hs0.out Hb0.out Hk0.out (by decide) v l.length _ rfl h1.out x.C rfl rfl (fun u hu=>Array.all_eq_true_iff_forall_mem.1 H1'.out u (by simpa using hu)) (by omega) (by decide) (by omega) ?_;intro v5 w5 ho5 hg5 hat5));go_ret;refine⟨v5,rfl,OwnE.snoc ho5,?_,g1.out.trans hg5⟩;rcases hat5 with q|q
   ·exact .inl q
   ·exact .inr (.inr ⟨_,q,by omega⟩)
  ·have h1:=h0.out.below hb1
   clear hb1 HN H0 h0 HI;obtain⟨gg,cap,cur,rfl,hgB,hpt,hput⟩:=h1.part (by decide) (fun _=>rfl) hk;have HT:=hid (K.there (fun _=>rfl) hpt);have HPt:=hid hpt;have HPut:=hid hput;clear hpt hput h1;have q0:(0:Int)≤(k:Int):=by omega
   have q1:((k:Nat):Int)<((l.length:Nat):Int):=by omega
   go_wp2_with (first|(refine zAa rfl _ _ rfl rfl x1.out.range K.row K.size ?_)|(refine wpList_store_mid rfl _ _ _ rfl gg _ x.C (by first|rfl|(simp;done)) rfl HT.out K.size H1'.out ?_));go_ret;exact⟨_,rfl,HPut.out _ x (K.put (fun _=>rfl) HPt.out x),.inl rfl,g1.out.trans (zFy _ _ _ _)⟩
theorem replaceSr_any:RepSt Sr 109 7 220 Sr.C:=rep_all.2.2.2.2.2.2 kSr Tryz.func220 ixASr_any
end Go.Proofs.YthcnojmldldpeaaGreatDoor
namespace Go.Proofs.YthcnojmldldpeaaGreatDoor
open Lib (hid)
open Go.RowKit
def LenFit{α:Type}(fit:α→Prop)(k:Nat)(l:List α):Prop:=l.length≤k∧∀x∈l,fit x
section
variable {α : Type} {fit : α → Prop} {k : Nat} {l : List α}
theorem LenFit.nil:LenFit fit k []:=⟨Nat.zero_le _,fun _ h=>by cases h⟩
theorem LenFit.up(h:LenFit fit k l){k' : Nat}(hk:k≤k'):LenFit fit k' l:=⟨Nat.le_trans h.1 hk,h.2⟩
theorem LenFit.snoc(h:LenFit fit k l){x:α}(hx:fit x):LenFit fit (k+1) (l++[x]) :=
 ⟨by rw[List.length_append];have:=h.1;simp;omega,fun y hy=>by
  rcases List.mem_append.1 hy with hy|hy
  ·exact h.2 y hy
  ·obtain rfl:=List.mem_singleton.1 hy;exact hx⟩
theorem LenFit.sub(h:LenFit fit k l){l' : List α}(hs:l'.Sublist l):LenFit fit k l' := ⟨Nat.le_trans hs.length_le h.1,fun x hx=>h.2 x (hs.subset hx)⟩
theorem LenFit.drop(h:LenFit fit k l)(p:α→Bool):LenFit fit k (dropL p l):=h.sub List.filter_sublist
theorem replL_len(p:α→Bool)(x:α):∀l:List α,(replL p x l).length≤l.length+1∧∀y∈replL p x l,y=x∨y∈l
 |[]=>⟨by simp[replL],fun y hy=>.inl (by simpa [replL] using hy)⟩
 |y :: r=>by
  obtain⟨h1,h2⟩:=replL_len p x r;unfold replL;split
  ·exact⟨by simp,fun z hz=>by rcases List.mem_cons.1 hz with e|e;exact .inl e;exact .inr (List.mem_cons_of_mem _ e)⟩
  ·refine⟨by simp;omega,fun z hz=>?_⟩
   rcases List.mem_cons.1 hz with e|e
   ·exact .inr (by rw[e];exact List.mem_cons_self)
   ·rcases h2 z e with e|e
    ·exact .inl e
    ·exact .inr (List.mem_cons_of_mem _ e)
theorem LenFit.repl(h:LenFit fit k l)(p:α→Bool){x:α}(hx:fit x):LenFit fit (k+1) (replL p x l):=by
 obtain⟨h1,h2⟩:=replL_len p x l;refine⟨by have:=h.1;omega,fun y hy=>?_⟩;rcases h2 y hy with rfl|e
 ·exact hx
 ·exact h.2 y e
theorem zHe{i:Nat}{x y:α}(h:y∈zDb l i x):y=x∨y∈l:=by
 unfold zDb at h;rcases List.mem_append.1 h with h|h
 ·exact .inr (List.mem_of_mem_take h)
 ·rcases List.mem_cons.1 h with h|h
  ·exact .inl h
  ·exact .inr (List.mem_of_mem_drop h)
theorem zDl{i:Nat}(hi:i<l.length)(x:α):(zDb l i x).length=l.length:=by unfold zDb;simp;omega
theorem LenFit.set(h:LenFit fit k l){i:Nat}(hi:i<l.length){x:α}(hx:fit x):LenFit fit k (zDb l i x) :=
 ⟨by rw[zDl hi];exact h.1,fun y hy=>by rcases zHe hy with rfl|e;exact hx;exact h.2 y e⟩
theorem mem_insAt{i:Nat}{x y:α}(h:y∈insAt l i x):y=x∨y∈l:=by
 unfold insAt at h;rcases List.mem_append.1 h with h|h
 ·exact .inr (List.mem_of_mem_take h)
 ·rcases List.mem_cons.1 h with h|h
  ·exact .inl h
  ·exact .inr (List.mem_of_mem_drop h)
theorem zIh{i:Nat}(x:α):(insAt l i x).length=l.length+1:=by unfold insAt;simp;omega
theorem delAt_sub(i:Nat):(delAt l i).Sublist l:=by
 unfold delAt
 conv=>rhs;rw[←List.take_append_drop i l]
 refine List.Sublist.append (List.Sublist.refl _) ?_;rw[←List.drop_drop];exact List.drop_sublist _ _
theorem delAt_len{i:Nat}(hi:i<l.length):(delAt l i).length=l.length - 1:=by unfold delAt;simp;omega
end
structure LsOne {α:Type} (fit:α→Prop) (k:Nat) (y:Ls α):Prop where
 len:y.items.length=y.seqs.length
 items:LenFit fit k y.items
 asc:y.seqs.Pairwise (·<·)
section
variable {α : Type} {fit : α → Prop} {k : Nat}
theorem LsOne.up{y:Ls α}(h:LsOne fit k y){k' : Nat}(hk:k≤k'):LsOne fit k' y:=⟨h.len,h.items.up hk,h.asc⟩
theorem placeOf_le(q:Int):∀l:List Int,zCj q l≤l.length
 |[]=>Nat.le_refl _
 |y :: r=>by unfold zCj;split;have:=placeOf_le q r;simp only[List.length_cons];omega;exact Nat.zero_le _
theorem placeOf_lt(q:Int):∀(l:List Int),∀x∈l.take (zCj q l),x<q
 |[],x,hx=>by simp at hx
 |y :: r,x,hx=>by
  unfold zCj at hx;split at hx
  ·rw[List.take_succ_cons]at hx
   rcases List.mem_cons.1 hx with rfl|hx
   ·assumption
   ·exact placeOf_lt q r x hx
  ·simp at hx
theorem placeOf_ge(q:Int):∀(l:List Int),l.Pairwise (·<·)→∀x∈l.drop (zCj q l),q≤x
 |[],_,x,hx=>by simp at hx
 |y :: r,h,x,hx=>by
  unfold zCj at hx;rw[List.pairwise_cons]at h;split at hx
  ·exact placeOf_ge q r h.2 x (by simpa using hx)
  ·rw[List.drop_zero]at hx
   rcases List.mem_cons.1 hx with rfl|hx
   ·omega
   ·have:=h.1 x hx;omega
theorem hasSeq_lt{q:Int}{l:List Int}(h:zIj q l=true):zCj q l<l.length:=by
 unfold zIj at h;rcases Nat.lt_or_ge (zCj q l) l.length with h1|h1
 ·exact h1
 ·rw[List.getElem?_eq_none h1]at h;cases h
theorem drop_cons_at{β:Type}{l:List β}{i:Nat}(hi:i<l.length):l.drop i=l[i] :: l.drop (i+1):=List.drop_eq_getElem_cons hi
theorem asc_ins{q:Int}{l:List Int}(h:l.Pairwise (·<·))(hn:zIj q l=false):(insAt l (zCj q l) q).Pairwise (·<·):=by
 have h0:(l.take (zCj q l)++l.drop (zCj q l)).Pairwise (·<·):=by rw[List.take_append_drop];exact h
 obtain⟨h1,h2,h3⟩:=List.pairwise_append.1 h0
 have hd:∀x∈l.drop (zCj q l),q<x:=by
  intro x hx;rcases Nat.lt_or_ge (zCj q l) l.length with hl|hl
  ·have hne:l[zCj q l]≠q:=by
    intro e;unfold zIj at hn;rw[List.getElem?_eq_getElem hl,e]at hn;simp at hn
   have hge:=placeOf_ge q l h;rw[drop_cons_at hl]at hx hge h2;rw[List.pairwise_cons]at h2;have h4:=hge _ List.mem_cons_self;rcases List.mem_cons.1 hx with rfl|hx
   ·omega
   ·have:=h2.1 x hx;omega
  ·rw[List.drop_eq_nil_of_le hl]at hx;cases hx
 unfold insAt;refine List.pairwise_append.2 ⟨h1,List.pairwise_cons.2 ⟨hd,h2⟩,fun a ha b hb=>?_⟩;have ha' := placeOf_lt q l a ha;rcases List.mem_cons.1 hb with rfl|hb
 ·exact ha'
 ·have:=hd b hb;omega
theorem LsOne.put{y:Ls α}(h:LsOne fit k y)(q:Int){x:α}(hx:fit x):LsOne fit (k+1) (putOne q x y):=by
 unfold putOne;cases hs:zIj q y.seqs with
 |true=>
  have hi:zCj q y.seqs<y.items.length:=by rw[h.len];exact hasSeq_lt hs
  simp only[if_true];exact⟨by dsimp only;rw[zDl hi];exact h.len,(h.items.set hi hx).up (Nat.le_succ _),h.asc⟩
 |false=>
  simp only[Bool.false_eq_true,if_false];refine⟨by dsimp only;rw[zIh,zIh,h.len],⟨by dsimp only;rw[zIh];have:=h.items.1;omega,fun z hz=>?_⟩,asc_ins h.asc hs⟩;rcases mem_insAt hz with rfl|e
  ·exact hx
  ·exact h.items.2 z e
theorem LsOne.del{y:Ls α}(h:LsOne fit k y)(q:Int):LsOne fit k (dropOne q y):=by
 unfold dropOne;cases hs:zIj q y.seqs with
 |true=>
  have hi:=hasSeq_lt hs;simp only[if_true];exact⟨by dsimp only;rw[delAt_len hi,delAt_len (by rw[h.len];exact hi),h.len],h.items.sub (delAt_sub _),h.asc.sublist (delAt_sub _)⟩
 |false=>simpa only[Bool.false_eq_true,if_false] using h
def LsOk{α:Type}(fit:α→Prop)(k:Nat)(l:List (Ls α)):Prop:=l.length≤k∧∀y∈l,LsOne fit k y
theorem LsOk.up{l:List (Ls α)}(h:LsOk fit k l){k' : Nat}(hk:k≤k'):LsOk fit k' l:=⟨Nat.le_trans h.1 hk,fun y hy=>(h.2 y hy).up hk⟩
theorem LsOk.nil:LsOk fit k ([]:List (Ls α)):=⟨Nat.zero_le _,fun _ h=>by cases h⟩
theorem LsOk.sub{l l' : List (Ls α)}(h:LsOk fit k l)(hs:l'.Sublist l):LsOk fit k l' := ⟨Nat.le_trans hs.length_le h.1,fun y hy=>h.2 y (hs.subset hy)⟩
theorem lsNew{x:α}{q:Int}{n:List UInt8}(hx:fit x)(hk:0<k):LsOne fit k ⟨n,[q],[x]⟩:=⟨rfl,⟨hk,fun y hy=>by obtain rfl:=List.mem_singleton.1 hy;exact hx⟩,by simp⟩
theorem LsOk.put{l:List (Ls α)}(h:LsOk fit k l)(n:List UInt8)(q:Int){x:α}(hx:fit x):LsOk fit (k+1) (putL n q x l):=by
 unfold putL;split
 ·rename_i y hy
  obtain⟨hi,e⟩:=List.getElem?_eq_some_iff.1 hy;refine⟨by rw[zDl hi];have:=h.1;omega,fun z hz=>?_⟩;rcases zHe hz with rfl|hz
  ·exact(h.2 y (by rw[←e];exact List.getElem_mem hi)).put q hx
  ·exact(h.2 z hz).up (Nat.le_succ _)
 ·refine⟨by rw[List.length_append];have:=h.1;simp;omega,fun z hz=>?_⟩
  rcases List.mem_append.1 hz with hz|hz
  ·exact(h.2 z hz).up (Nat.le_succ _)
  ·obtain rfl:=List.mem_singleton.1 hz
   exact lsNew hx (Nat.succ_pos _)
theorem LsOk.drop{l:List (Ls α)}(h:LsOk fit k l)(n:List UInt8)(q:Int):LsOk fit k (dropLs n q l):=by
 unfold dropLs;split
 ·exact h
 ·rename_i y hy
  obtain⟨hi,e⟩:=List.getElem?_eq_some_iff.1 hy;split
  ·exact h.sub (delAt_sub _)
  ·refine⟨by rw[zDl hi];exact h.1,fun z hz=>?_⟩
   rcases zHe hz with rfl|hz
   ·exact(h.2 y (by rw[←e];exact List.getElem_mem hi)).del q
   ·exact h.2 z hz
theorem LsOk.remove{l:List (Ls α)}(h:LsOk fit k l)(p:Ps):LsOk fit k (zFr p l).1:=by
 unfold zFr;split
 ·exact h.sub List.filter_sublist
 ·exact h.drop _ _
end
theorem put_at{α:Type}{fit:α→Prop}{k:Nat}{l:List (Ls α)}(h:LsOk fit k l)(n:List UInt8)(q:Int)(x:α) :
  ∃y,(putL n q x l)[(putAt n q l).1]? = some y∧(putAt n q l).2<y.items.length:=by
 unfold putL putAt;cases hy:l[findL n l]? with
 |some y=>
  obtain⟨hi,e⟩:=List.getElem?_eq_some_iff.1 hy;have h1:=h.2 y (by rw[←e];exact List.getElem_mem hi);refine⟨putOne q x y,?_,?_⟩
  ·dsimp only
   unfold zDb;rw[List.getElem?_append_right (by simp;omega)];simp[Nat.min_eq_left (Nat.le_of_lt hi)]
  ·dsimp only
   unfold putOne;have hp:=placeOf_le q y.seqs;cases hs:zIj q y.seqs with
   |true=>
    have h2:=hasSeq_lt hs;simp only[if_true];rw[zDl (by rw[h1.len];exact h2),h1.len];exact h2
   |false=>
    simp only[Bool.false_eq_true,if_false];rw[zIh,h1.len];omega
 |none=>exact⟨⟨n,[q],[x]⟩,by simp,by simp⟩
structure AlOk (k:Nat) (a:Al):Prop where
 ifs:LenFit If.fit k a.ifs
 nat:LenFit Tr.fit k a.nat
 stat:LenFit Sr.fit k a.stat
 ranges:LenFit AR.fit k a.ranges
 lsRed:LenFit Rd.fit k a.lsRed
 dvRed:LenFit Rd.fit k a.dvRed
 nb:LenFit Nb.fit k a.nb
 net:LenFit Pf.fit k a.net
 ag:LenFit Ag.fit k a.ag
 cd:LenFit Cd.fit k a.cd
 pvRed:LenFit Rd.fit k a.pvRed
 lists:LsOk PRule.fit k a.lists
 maps:LsOk Cl.fit k a.maps
 acls:LsOk Ru.fit k a.acls
 iface:a.block=1→a.iface<a.ifs.length
 clause:a.block=2→∃y,a.maps[a.clause.1]? = some y∧a.clause.2<y.items.length
theorem AlOk.up{k k' : Nat}{a:Al}(h:AlOk k a)(hk:k≤k'):AlOk k' a :=
 ⟨h.ifs.up hk,h.nat.up hk,h.stat.up hk,h.ranges.up hk,h.lsRed.up hk,h.dvRed.up hk,h.nb.up hk,h.net.up hk,h.ag.up hk,h.cd.up hk,h.pvRed.up hk,h.lists.up hk,h.maps.up hk,h.acls.up hk,h.iface,h.clause⟩
theorem AlOk.zero(k:Nat):AlOk k Al.zero:=⟨.nil,.nil,.nil,.nil,.nil,.nil,.nil,.nil,.nil,.nil,.nil,.nil,.nil,.nil,(fun h=>by cases h),(fun h=>by cases h)⟩
theorem AlOk.closed{k:Nat}{a:Al}(h:AlOk k a):AlOk k { a with block:=0 } :=
 ⟨h.ifs,h.nat,h.stat,h.ranges,h.lsRed,h.dvRed,h.nb,h.net,h.ag,h.cd,h.pvRed,h.lists,h.maps,h.acls,(fun h=>by cases h),(fun h=>by cases h)⟩
theorem adV_lt(p:Ps):adV p<4294967296:=by
 unfold adV;cases h:zDa (wV p)with
 |none=>simp
 |some a=>simpa using zHc h
theorem hoV_lt(p:Ps):(hoV p).1<4294967296:=by
 unfold hoV;cases h:hostA (wV p)with
 |none=>simp
 |some a=>obtain⟨a,n⟩:=a;simpa using (hostA_lt h).1
theorem zJt(p:Ps):(pxV p).1<4294967296:=by
 unfold pxV;cases h:pfxA (wV p)with
 |none=>simp
 |some a=>obtain⟨a,n⟩:=a;simpa using (pfxA_fit h).1
theorem wildA_lt{l:List UInt8}{x:Nat × Nat}(h:wildA l=some x):x.1<4294967296∧x.2<4294967296:=by
 unfold wildA at h;split at h
 ·cases h;simp
 ·split at h
  ·rename_i a ha;cases h;exact⟨zHc ha,by simp⟩
  ·split at h
   ·rename_i p hp;cases h;obtain⟨a,n⟩:=p;exact⟨(pfxA_fit hp).1,by dsimp only;omega⟩
   ·split at h
    ·cases h
    ·rename_i a ha
     split at h
     ·cases h
     ·rename_i m hm
      split at h
      ·cases h;exact⟨zHc ha,zHc hm⟩
      ·cases h
theorem wiV_lt(p:Ps):(wiV p).1<4294967296∧(wiV p).2<4294967296:=by
 unfold wiV;cases h:wildA (wV p)with
 |none=>simp
 |some a=>simpa using wildA_lt h
theorem red_ok{k:Nat}{l:List Rd}(h:LenFit Rd.fit k l)(into:Int)(no:Bool)(p:Ps):LenFit Rd.fit (k+1) (zJr l into no p).1:=by
 unfold zJr;cases no with
 |true=>exact(h.drop _).up (Nat.le_succ _)
 |false=>exact h.repl _ trivial
theorem nb_ok{k:Nat}{l:List Nb}(h:LenFit Nb.fit k l)(no:Bool)(p:Ps):LenFit Nb.fit (k+1) (nbCmd l no p).1:=by
 unfold nbCmd;cases no with
 |true=>exact(h.drop _).up (Nat.le_succ _)
 |false=>exact h.repl _ (adV_lt p)
theorem cd_ok{k:Nat}{l:List Cd}(h:LenFit Cd.fit k l)(no:Bool)(p:Ps):LenFit Cd.fit (k+1) (cdCmd l no p).1:=by
 unfold cdCmd;cases no with
 |true=>exact(h.drop _).up (Nat.le_succ _)
 |false=>exact h.repl _ ⟨zJt _,zJt _⟩
theorem lsCmd_ok{k:Nat}{a:Al}(h:AlOk k a)(word:List UInt8)(no:Bool)(p:Ps):AlOk (k+1) (lsCmd word no a p).1:=by
 have hu:=h.up (Nat.le_succ k);unfold lsCmd;split
 ·exact { hu with }
 ·split
  ·refine { hu with ranges:=?_ }
   cases no with
   |true=>exact(h.ranges.drop _).up (Nat.le_succ _)
   |false=>exact h.ranges.repl _ (zJt _)
  ·split
   ·exact { hu with lsRed:=red_ok h.lsRed _ _ _ }
   ·exact hu
theorem dvCmd_ok{k:Nat}{a:Al}(h:AlOk k a)(word:List UInt8)(no:Bool)(p:Ps):AlOk (k+1) (dvCmd word no a p).1:=by
 have hu:=h.up (Nat.le_succ k);unfold dvCmd;split
 ·exact { hu with }
 ·split
  ·split
   ·exact { hu with }
   ·split
    ·exact { hu with }
    ·exact { hu with }
  ·split
   ·exact { hu with dvRed:=red_ok h.dvRed _ _ _ }
   ·exact hu
theorem pvCmd_ok{k:Nat}{a:Al}(h:AlOk k a)(word:List UInt8)(no:Bool)(p:Ps):AlOk (k+1) (pvCmd word no a p).1:=by
 have hu:=h.up (Nat.le_succ k);unfold pvCmd;split
 ·split
  ·exact { hu with }
  ·exact { hu with }
 ·split
  ·exact { hu with nb:=nb_ok h.nb _ _ }
  ·split
   ·refine { hu with net:=?_ }
    cases no with
    |true=>exact(h.net.drop _).up (Nat.le_succ _)
    |false=>exact h.net.repl _ (zJt _)
   ·split
    ·dsimp only
     cases no with
     |true=>exact { hu with ag:=(h.ag.drop _).up (Nat.le_succ _) }
     |false=>exact { hu with ag:=h.ag.repl _ (zJt _) }
    ·split
     ·exact { hu with cd:=cd_ok h.cd _ _ }
     ·split
      ·exact { hu with pvRed:=red_ok h.pvRed _ _ _ }
      ·exact hu
theorem ifCmd_fit{x:If}(h:x.fit)(word:List UInt8)(no:Bool)(p:Ps):(ifCmd x word no p).1.fit:=by
 have h0:x.addr<4294967296:=h
 have hz:(ifCmd x word no p).1.addr<4294967296:=by
  unfold ifCmd;dsimp only
  repeat' split
  all_goals first|exact h0|exact hoV_lt p|(show(0:Nat)<4294967296;decide)
 exact hz
theorem innS_ok{k:Nat}{a:Al}(h:AlOk k a)(word:List UInt8)(no:Bool)(p:Ps):AlOk (k+1) (innS word no a p).1:=by
 have hu:=h.up (Nat.le_succ k);unfold innS;split
 ·rename_i hb
  have hi:=h.iface hb
  have hf:(ifGet a).fit:=by
   unfold ifGet;rw[List.getElem?_eq_getElem hi];exact h.ifs.2 _ (List.getElem_mem hi)
  exact { hu with ifs:=(h.ifs.set hi (ifCmd_fit hf word no p)).up (Nat.le_succ _),iface:=fun hb=>by show a.iface<(zDb _ _ _).length;rw[zDl hi];exact hi }
 ·split
  ·rename_i hb
   obtain⟨y,hy,hc⟩:=h.clause hb;unfold clSet;rw[hy];obtain⟨hi,e⟩:=List.getElem?_eq_some_iff.1 hy;have h1:=h.maps.2 y (by rw[←e];exact List.getElem_mem hi);refine { hu with maps:=?_,clause:=fun _=>?_ }
   ·refine⟨by dsimp only;rw[zDl hi];have:=h.maps.1;omega,fun z hz=>?_⟩
    rcases zHe hz with rfl|hz
    ·exact⟨by dsimp only;rw[zDl hc];exact h1.len,(h1.items.set hc trivial).up (Nat.le_succ _),h1.asc⟩
    ·exact(h.maps.2 z hz).up (Nat.le_succ _)
   ·refine⟨⟨y.name,y.seqs,zDb y.items a.clause.2 (clCmd (clGet a) word no p).1⟩,?_,?_⟩
    ·dsimp only
     unfold zDb;rw[List.getElem?_append_right (by rw[List.length_take];omega),List.length_take,Nat.min_eq_left (Nat.le_of_lt hi),Nat.sub_self];rfl
    ·dsimp only
     rw[zDl hc];exact hc
  ·split
   ·exact lsCmd_ok h _ _ _
   ·split
    ·exact dvCmd_ok h _ _ _
    ·split
     ·exact pvCmd_ok h _ _ _
     ·exact hu
theorem pTrans_fit(p:Ps):(pTrans p).1.fit:=by
 have z:(0:Nat)<4294967296:=by decide
 unfold pTrans;dsimp only
 repeat' split
 all_goals first|exact⟨adV_lt _,adV_lt _,z,z⟩|exact⟨z,z,adV_lt _,adV_lt _⟩|exact⟨z,z,z,z⟩
theorem pStatic_fit(p:Ps):(zEt p).1.fit:=by
 have z:(0:Nat)<4294967296:=by decide
 unfold zEt;dsimp only
 repeat' split
 all_goals first|exact⟨zJt _,adV_lt _⟩|exact⟨zJt _,z⟩
theorem globS_ok{k:Nat}{a:Al}(h:AlOk k a)(word:List UInt8)(p:Ps):AlOk (k+1) (globS word { a with block:=0 } p).1:=by
 have hc:=h.closed;have hu:=hc.up (Nat.le_succ k);unfold globS;split
 ·exact { hu with }
 split
 ·exact { hu with }
 split
 ·unfold zDp
  dsimp only;split
  ·rename_i hi
   exact { hu with iface:=fun _=>hi,clause:=(fun hb=>by cases hb) }
  ·refine { hu with ifs:=h.ifs.snoc (by show(0:Nat)<4294967296;decide),iface:=fun _=>?_,clause:=(fun hb=>by cases hb) }
   show a.ifs.length<(a.ifs++[_]).length;simp
 split
 ·exact { hu with lists:=h.lists.put _ _ (zJt _) }
 split
 ·refine { hu with maps:=h.maps.put _ _ trivial,iface:=(fun hb=>by cases hb),clause:=fun _=>?_ }
  exact put_at h.maps _ _ _
 split
 ·exact { hu with acls:=h.acls.put _ _ ⟨(wiV_lt _).1,(wiV_lt _).2,(wiV_lt _).1,(wiV_lt _).2⟩ }
 split
 ·exact { hu with nat:=h.nat.snoc (pTrans_fit p) }
 split
 ·exact { hu with stat:=h.stat.repl _ (pStatic_fit p) }
 split
 ·unfold pProto
  dsimp only
  repeat' split
  all_goals exact { hu with iface:=(fun hb=>by cases hb),clause:=(fun hb=>by cases hb) }
 ·exact hu
theorem remS_ok{k:Nat}{a:Al}(h:AlOk k a)(word:List UInt8)(p:Ps):AlOk (k+1) (remS word { a with block:=0 } p).1:=by
 have hc:=h.closed;have hu:=hc.up (Nat.le_succ k);unfold remS;by_cases q:(word==[97,115])=true
 ·rw[if_pos q];exact { hu with }
 rw[if_neg q];clear q;by_cases q:(word==[105,110,116,101,114,102,97,99,101])=true
 ·rw[if_pos q];exact { hu with ifs:=(h.ifs.drop _).up (Nat.le_succ _),iface:=(fun hb=>by cases hb) }
 rw[if_neg q];clear q;by_cases q:(word==[112,114,101,102,105,120,45,108,105,115,116])=true
 ·rw[if_pos q];exact { hu with lists:=(h.lists.remove p).up (Nat.le_succ _) }
 rw[if_neg q];clear q;by_cases q:(word==[114,111,117,116,101,45,109,97,112])=true
 ·rw[if_pos q];exact { hu with maps:=(h.maps.remove p).up (Nat.le_succ _),clause:=(fun hb=>by cases hb) }
 rw[if_neg q];clear q;by_cases q:(word==[97,99,99,101,115,115,45,108,105,115,116])=true
 ·rw[if_pos q];exact { hu with acls:=(h.acls.remove p).up (Nat.le_succ _) }
 rw[if_neg q];clear q;by_cases q:(word==[110,97,116])=true
 ·rw[if_pos q];exact { hu with nat:=.nil }
 rw[if_neg q];clear q;by_cases q:(word==[114,111,117,116,101])=true
 ·rw[if_pos q];exact { hu with stat:=(h.stat.drop _).up (Nat.le_succ _) }
 rw[if_neg q];clear q;by_cases q:(word==[114,111,117,116,101,114])=true
 ·rw[if_pos q];clear q
  by_cases q:(wV p==[108,115])=true
  ·rw[if_pos q];exact { hu with ranges:=.nil,lsRed:=.nil }
  rw[if_neg q];clear q;by_cases q:(wV p==[100,118])=true
  ·rw[if_pos q];exact { hu with dvRed:=.nil }
  rw[if_neg q];clear q;by_cases q:(wV p==[112,118])=true
  ·rw[if_pos q];exact { hu with nb:=.nil,net:=.nil,ag:=.nil,cd:=.nil,pvRed:=.nil }
  rw[if_neg q];clear q;exact hu
 ·rw[if_neg q];exact hu
theorem lineS_ok{k:Nat}{a:Al}(h:AlOk k a)(fs:List (List UInt8)):AlOk (k+1) (lineS fs a).1:=by
 unfold lineS;dsimp only;split
 ·exact h.up (Nat.le_succ _)
 ·dsimp only
  split
  ·exact innS_ok h _ _ _
  ·split
   ·exact remS_ok h _ _
   ·exact globS_ok h _ _
structure Lm (α:Type) where
 name:List UInt8
 seqs:List Int
 items:List α
 sv:Value
 iv:Value
 s1:sv.oneCell' = true
 i1:iv.oneCell' = true
section
variable {α : Type}
def Lm.ls(m:Lm α):Ls α:=⟨m.name,m.seqs,m.items⟩
def Lm.C(m:Lm α):Array Value:=#[strV m.name,m.sv,m.iv]
theorem Lm.one(m:Lm α):m.C.all (·.oneCell')=true:=by
 have h1:=m.s1;have h2:=m.i1;rw[Array.all_eq_true_iff_forall_mem];intro v hv;simp only[Lm.C,List.mem_toArray,List.mem_cons,List.not_mem_nil,or_false]at hv;rcases hv with rfl|rfl|rfl
 ·rfl
 ·exact h1
 ·exact h2
def Lm.new(n:List UInt8):Lm α:=⟨n,[],[],.slice none 0 0,.slice none 0 0,rfl,rfl⟩
instance:Inhabited (Lm α):=⟨Lm.new []⟩
def intC(x:Int):Array Value:=#[.int .i64 x]
def rowE(T:TypeId)(n:Nat)(cells:α→Array Value)(v:Value)(l:List α):Orow:=⟨T,n,v,l.length,l.flatMap fun x=>(cells x).toList⟩
def Lm.rows(Ti T:TypeId)(n:Nat)(cells:α→Array Value)(m:Lm α):List Orow:=[rowE Ti 1 intC m.sv m.seqs,rowE T n cells m.iv m.items]
def zJy(Tl Ti T:TypeId)(n:Nat)(cells:α→Array Value)(v:Value)(ms:List (Lm α)):List Orow:=rowE Tl 3 Lm.C v ms :: ms.flatMap (Lm.rows Ti T n cells)
end
end Go.Proofs.YthcnojmldldpeaaGreatDoor
namespace Go.Proofs.YthcnojmldldpeaaGreatDoor
open Lib (hid)
open Go.RowKit Go.Shelf
theorem kLPRule:KS (Lm PRule) 191 160 3 64 Lm.C:=⟨by kernel_rfl,by kernel_rfl,fun x=>Lm.one x,by kernel_rfl,Tryz.underlying160,fun w=>by kernel_rfl,fun w=>by kernel_rfl,by kernel_rfl⟩
theorem kLCl:KS (Lm Cl) 193 161 3 64 Lm.C:=⟨by kernel_rfl,by kernel_rfl,fun x=>Lm.one x,by kernel_rfl,Tryz.underlying161,fun w=>by kernel_rfl,fun w=>by kernel_rfl,by kernel_rfl⟩
theorem kLRu:KS (Lm Ru) 195 162 3 64 Lm.C:=⟨by kernel_rfl,by kernel_rfl,fun x=>Lm.one x,by kernel_rfl,Tryz.underlying162,fun w=>by kernel_rfl,fun w=>by kernel_rfl,by kernel_rfl⟩
theorem Tryz.rowLPRule:(Tryz.prog.underlying 191).map TypeDesc.isRow=some true:=kLPRule.row
theorem Tryz.sizeLPRule:(Tryz.prog.info? 191).map (·.size)=some 3:=kLPRule.size
theorem Tryz.rowLCl:(Tryz.prog.underlying 193).map TypeDesc.isRow=some true:=kLCl.row
theorem Tryz.sizeLCl:(Tryz.prog.info? 193).map (·.size)=some 3:=kLCl.size
theorem Tryz.rowLRu:(Tryz.prog.underlying 195).map TypeDesc.isRow=some true:=kLRu.row
theorem Tryz.sizeLRu:(Tryz.prog.info? 195).map (·.size)=some 3:=kLRu.size
end Go.Proofs.YthcnojmldldpeaaGreatDoor
namespace Go.Proofs.YthcnojmldldpeaaGreatDoor
open Lib (hid)
open Go.RowKit
theorem HasC.sub{T:TypeId}{g:Nat}{cs:Array Value}{w:World}(h:HasC T g cs w)(f:Nat)(ds:Array Value)(hd:∀j,j<ds.size→cs[f+j]? = ds[j]?):w.rangeAt g f ds.toList:=by
 intro j v hv
 have hj:j<ds.size:=by
  rcases Nat.lt_or_ge j ds.size with h|h
  ·exact h
  ·rw[List.getElem?_eq_none (by simpa using h)]at hv;cases hv
 rw[h.cell,hd j hj];simpa using hv
theorem predSr(x:Sr)(b:Nat)(w:World)(h:HasC 109 b x.C w):PredC Tryz.prog 221 #[.pointer (some ⟨b,0,none⟩)] (fun(y:Sr)=>.agg (Sr.C y).toList.toArray) (likeSr x) [b] w:=by
 refine⟨fun c hc=>by obtain rfl:=List.mem_singleton.1 hc;exact zCv h,fun W y hW=>?_⟩;have hb:HasC 109 b x.C (W.alloc (.cells (Sr.C y) 109)):=HasC.keep ((hW b (List.mem_singleton.2 rfl)).trans h) ((Below.refl _ W).alloc (Nat.le_refl _) _);have hy:HasC 109 W.heap.size (Sr.C y) (W.alloc (.cells (Sr.C y) 109)):=HasC.new _ _ _;have HB:=hid ((Below.refl W.heap.size W).alloc (Nat.le_refl _) (.cells (Sr.C y) 109));have HRy:=hid (hy.sub 0 #[.int .u32 (y.pa:Int),.int .i64 y.pl] (fun j hj=>by obtain rfl|rfl:j=0∨j=1:=(by have:j<2:=hj;omega)<;>rfl));have HRx:=hid (hb.sub 0 #[.int .u32 (x.pa:Int),.int .i64 x.pl] (fun j hj=>by obtain rfl|rfl:j=0∨j=1:=(by have:j<2:=hj;omega)<;>rfl));have cy:(W.alloc _).cell? ⟨W.heap.size,5,none⟩=some (.int .i64 y.admin):=hy.cell 5;have cx:(W.alloc _).cell? ⟨b,5,none⟩=some (.int .i64 x.admin):=hb.cell 5;clear hb hy hW h;show Calls Tryz.prog 221 #[.agg (Sr.C y),.pointer (some ⟨b,0,none⟩)] W _;go_enter Tryz.func221,Tryz.ntmps221;go_wp2_with (first|(refine zAa rfl _ _ rfl rfl HRy.out Tryz.rowPf Tryz.sizePf ?_)|(refine zAa rfl _ _ rfl rfl HRx.out Tryz.rowPf Tryz.sizePf ?_))
 all_goals (go_ret;exact⟨zAg (by unfold likeSr;first|rfl|(simp;done)|(simp;omega)|(rw[Bool.eq_iff_iff];simp;omega)),HB.out⟩)
structure RL (E T:TypeId) (g b B:Nat) (w0:World) (cs:Array Value) (rs:List Orow) (p:Ps) (El:TypeId) (xb:Nat) (cl:Array Value) (w:World):Prop where
 base:RS E T g b B w0 cs rs p w
 loc:HasC El xb cl w
 xB:B≤xb
 xg:xb≠g
 xw:xb≠b
 xr:xb∉blks rs
section
variable {E T El : TypeId} {g b B xb : Nat} {w0 w w' : World} {cs cl cl' : Array Value} {rs pre X X' post : List Orow} {p p' : Ps}
theorem RS.other(h:RS E T g b B w0 cs rs p w){k:Nat}(hg:w.grownBy w' (some k))(hB:B≤k)(h1:k≠g)(h2:k≠b)(h3:k∉blks rs):RS E T g b B w0 cs rs p w' := by
 have hw:=h.size;have hbB:=h.bB;exact⟨h.has.grown hg (fun e=>h1 (Option.some.inj e).symm),h.own.frame hg (fun j hj=>by cases hj;exact h3),h.st.other hg (fun j hj=>by cases hj;exact⟨hB,h2⟩),h.bel.trans (zBj hg hB (by omega)),h.bB,h.gB,h.gb,h.gr,h.br⟩
theorem RL.start(h:RS E T g b B w0 cs rs p w){o:Obj}{w4:World}(hx:HasC El w.heap.size cl w4)(hg:(w.alloc o).grownBy w4 (some w.heap.size)):RL E T g b B w0 cs rs p El w.heap.size cl w4:=by
 have h1:=h.g_lt;have h2:=h.b_lt;have h3:=h.bB;have h4:=h.size;refine⟨h.keep (zAi hg),hx,by omega,by omega,by omega,fun hm=>?_⟩;have:=(h.blt hm).1;omega
theorem RL.word(h:RL E T g b B w0 cs rs p El xb cl w)(hs:WSt T b B p' w')(hg:w.grownBy w' (some b)):RL E T g b B w0 cs rs p' El xb cl w' :=
 ⟨h.base.word hs hg,h.loc.grown hg (fun e=>h.xw (by injection e)),h.xB,h.xg,h.xw,h.xr⟩
theorem RL.keep(h:RL E T g b B w0 cs rs p El xb cl w)(hb:Below w.heap.size w w'):RL E T g b B w0 cs rs p El xb cl w' :=
 ⟨h.base.keep hb,h.loc.keep hb,h.xB,h.xg,h.xw,h.xr⟩
theorem RL.put(h:RL E T g b B w0 cs rs p El xb cl w)(j:Nat)(v:Value)(e:cl.setIfInBounds j v=cl'):RL E T g b B w0 cs rs p El xb cl' (w.setCell ⟨xb,j,none⟩ v):=by
 refine⟨h.base.other (zDi w xb j v) h.xB h.xg h.xw h.xr,?_,h.xB,h.xg,h.xw,h.xr⟩;subst e;exact Lib.heap_setCell_same (i:=j) h.loc v
theorem RL.bad(h:RL E T g b B w0 cs rs p El xb cl w):RL E T g b B w0 cs rs p.fail El xb cl (w.setCell ⟨b,1,none⟩ (.bool true)):=h.word h.base.st.failed.1 h.base.st.failed.2
theorem RL.lsome(h:RL E T g b B w0 cs rs p El xb cl w){j:Nat}(hj:j<cl.size):∃v,w.cell? ⟨xb,j,none⟩=some v:=⟨cl[j],by rw[h.loc.cell,Array.getElem?_eq_getElem hj]⟩
theorem RL.lfrz(h:RL E T g b B w0 cs rs p El xb cl w)(j:Nat):w.frozen? ⟨xb,j,none⟩=false:=h.loc.frz j
theorem RL.env(h:RL E T g b B w0 cs rs p El xb cl w)(he:EnvA B w0):EnvA B w:=h.base.env he
theorem RS.at{r:Orow}(h:RS E T g b B w0 cs (pre++r :: post) p w):r.own w B:=h.own.1 r (by simp)
end
def RowPost{α:Type}(E T:TypeId)(g b B:Nat)(w0:World)(cs:Array Value)(pre post:List Orow)(Te:TypeId)(n:Nat)(cells:α→Array Value)(l' : List α)(p' : Ps)(e:Ending)(w' : World):Prop :=
 ∃v', e=.returned v' ∧ RS E T g b B w0 cs (pre++rowE Te n cells v' l' :: post) p' w'
theorem RS.epost{α:Type}{E T:TypeId}{g b B:Nat}{w0 w w' : World}{cs:Array Value}{pre post:List Orow}{p:Ps}{Te:TypeId}{n:Nat}{cells:α→Array Value}{v:Value}{l l' : List α}{e:Ending}
  (h:RS E T g b B w0 cs (pre++rowE Te n cells v l :: post) p w) (hp:EPost B Te n cells v l' w e w'):RowPost E T g b B w0 cs pre post Te n cells l' p e w' := by
 obtain⟨v', he,ho,hn,hg⟩:=hp;exact⟨v', he,RS.row (r' := rowE Te n cells v' l') h hg ho hn⟩
theorem short_px{p:Ps}(h:p.short):(pxS p).short:=short_must _ (short_wS h)
section
variable {E T : TypeId} {g b B xb : Nat} {w0 w : World} {cs : Array Value} {pre post : List Orow} {p : Ps} {v : Value}
theorem repSr(l:List Sr)(x:Sr)(h:RL E T g b B w0 cs (pre++rowE 109 7 Sr.C v l :: post) p 109 xb x.C w)(hl:l.length≤1000000000) :
  Calls Tryz.prog 220 #[v,.agg x.C,.func (.func 221) #[] #[.pointer (some ⟨xb,0,none⟩)]] w (RowPost E T g b B w0 cs pre post 109 7 Sr.C (replL (likeSr x) x l) p) :=
 (replaceSr_any B v l x (likeSr x) 221 _ (enters_of Tryz.func221 (by kernel_rfl) rfl) w h.base.at (by have:=h.base.bB;have:=h.base.size;omega) [xb] (predSr x xb w h.loc) hl).mono fun _ _ hp=>RS.epost h.base hp
end
end Go.Proofs.YthcnojmldldpeaaGreatDoor
namespace Go.Proofs.YthcnojmldldpeaaGreatDoor
open Lib (hid)
open Go.RowKit
structure Av where
 ifs:Value
 nat:Value
 stat:Value
 ranges:Value
 lsRed:Value
 dvRed:Value
 nb:Value
 net:Value
 ag:Value
 cd:Value
 pvRed:Value
 lists:Value
 maps:Value
 acls:Value
 ifp:Value
 clp:Value
 lm:List (Lm PRule)
 mm:List (Lm Cl)
 am:List (Lm Ru)
def AlC(a:Al)(v:Av):Array Value:=#[strV a.name,.int .i64 a.asn,v.ifs,.slice none 0 0,.slice none 0 0,.slice none 0 0,v.nat,v.stat,.bool a.lsOn,.int .i64 a.lsAdmin,v.ranges,v.lsRed,.bool a.dvOn,.int .i64 a.dvAdmin,strV a.dvIn,strV a.dvOut,v.dvRed,.bool a.pvOn,.int .i64 a.ext,.int .i64 a.int,v.nb,v.net,v.ag,v.cd,v.pvRed,v.lists,v.maps,v.acls,.int .i64 a.block,v.ifp,v.clp]
def rowsP(v:Av):List Orow:=zJy 191 3 92 5 PRule.C v.lists v.lm
def rowsM(v:Av):List Orow:=zJy 193 3 95 7 Cl.C v.maps v.mm
def rowsA(v:Av):List Orow:=zJy 195 3 103 10 Ru.C v.acls v.am
def AlR(a:Al)(v:Av):List Orow :=
 rowE 68 12 If.C v.ifs a.ifs :: rowE 106 9 Tr.C v.nat a.nat :: rowE 109 7 Sr.C v.stat a.stat :: rowE 112 3 AR.C v.ranges a.ranges :: rowE 149 5 Rd.C v.lsRed a.lsRed :: rowE 149 5 Rd.C v.dvRed a.dvRed :: rowE 115 4 Nb.C v.nb a.nb :: rowE 90 2 Pf.C v.net a.net :: rowE 117 3 Ag.C v.ag a.ag :: rowE 119 5 Cd.C v.cd a.cd :: rowE 149 5 Rd.C v.pvRed a.pvRed :: (rowsP v++rowsM v++rowsA v)
def RA(g b B:Nat)(w0:World)(a:Al)(p:Ps)(w:World):Prop :=
 ∃v:Av,RS 166 185 g b B w0 (AlC a v) (AlR a v) p w∧(a.lists=v.lm.map Lm.ls∧a.maps=v.mm.map Lm.ls∧a.acls=v.am.map Lm.ls) ∧
  (a.block=1→∃gg cap,v.ifs=.slice (some ⟨gg,0,none⟩) a.ifs.length cap∧v.ifp=.pointer (some ⟨gg,a.iface*12,none⟩)) ∧
  (a.block=2→∃m gg cap,v.mm[a.clause.1]? = some m∧m.iv=.slice (some ⟨gg,0,none⟩) m.items.length cap∧v.clp=.pointer (some ⟨gg,a.clause.2*7,none⟩))
def APost(g b B:Nat)(w0:World)(a:Al)(p:Ps)(e:Ending)(w:World):Prop:=e=.returned (.tuple #[])∧RA g b B w0 a p w
theorem drew_below(w:World):Below w.heap.size w w.drew:=⟨rfl,rfl,rfl,Nat.le_refl _,fun _ _=>rfl⟩
section
variable {E T : TypeId} {g b B : Nat} {w0 w : World} {cs : Array Value} {rs : List Orow} {p : Ps}
theorem RS.some(h:RS E T g b B w0 cs rs p w){j:Nat}(hj:j<cs.size):∃v,w.cell? ⟨g,j,none⟩=.some v:=⟨cs[j],by rw[h.cell,Array.getElem?_eq_getElem hj]⟩
theorem RS.form{α:Type}{pre post:List Orow}{Te:TypeId}{n:Nat}{cells:α→Array Value}{v:Value}{l:List α}(h:RS E T g b B w0 cs (pre++rowE Te n cells v l :: post) p w):∃A k c,v=.slice A k c:=by
 rcases h.at.2 with⟨e,-⟩|⟨g,cap,cur,e,-⟩
 ·exact⟨_,_,_,e⟩
 ·exact⟨_,_,_,e⟩
end
end Go.Proofs.YthcnojmldldpeaaGreatDoor
