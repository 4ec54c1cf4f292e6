/- The walks of the methods of alpha's words that read one word. Conditions: no word is longer than 10^9 bytes; Go's own tables lie below the words (EnvA). -/
import Derived.Test.YthcnojmldldpeaaGreatDoorGo
import Derived.Test.YthcnojmldldpeaaGreatDoorGp
namespace Go.Proofs.YthcnojmldldpeaaGreatDoor
open Lib (hid)
open Go.RowKit
def OwnE{α:Type}(w:World)(B:Nat)(T:TypeId)(n:Nat)(cells:α→Array Value)(v:Value)(l:List α):Prop:=w.ownsRow B T n v l.length (l.flatMap fun x=>(cells x).toList)
section
variable {α : Type} {w w' : World} {B n : Nat} {T : TypeId} {cells : α → Array Value} {v : Value} {l : List α}
theorem OwnE.nil:OwnE w B T n cells (.slice none 0 0) ([]:List α):=⟨by simp,.inl ⟨rfl,rfl⟩⟩
theorem OwnE.frame(h:OwnE w B T n cells v l){row:Option Nat}(hg:w.grownBy w' row)(hn:∀g,v.ownBlock=some g→row≠some g):OwnE w' B T n cells v l :=
 Orow.own.frame (r:=⟨T,n,v,l.length,l.flatMap fun x=>(cells x).toList⟩) h hg hn
theorem OwnE.below(h:OwnE w B T n cells v l)(hb:Below w.heap.size w w'):OwnE w' B T n cells v l:=h.frame (zFm (Nat.le_refl _) hb none) (fun g _ e=>by cases e)
theorem OwnE.slv(h:OwnE w B T n cells v l):SlV w w.heap.size n cells v l:=by
 have hs:=Slc.of_own h;obtain⟨hl,h⟩:=h;rcases h with⟨rfl,h0⟩|⟨g,cap,cur,rfl,-,-,hn,-⟩
 ·refine⟨none,0,by rw[h0],by omega,?_⟩
  rw[h0]at hs⊢;exact hs
 ·exact⟨_,cap,rfl,hn,hs⟩
theorem OwnE.blk(h:OwnE w B T n cells v l)(hn:0<l.length):∃g cap cur,v=.slice (some ⟨g,0,none⟩) l.length cap∧B≤g∧HasC T g cur w∧l.length≤cap∧cap≤maxLen∧cur.size=cap*n∧cur.toList.take (l.length*n)=l.flatMap fun x=>(cells x).toList:=by
 obtain⟨hl,h⟩:=h;rcases h with⟨-,h0⟩|⟨g,cap,cur,h1,h2,h3,h4,h5,h6,h7⟩
 ·omega
 ·exact⟨g,cap,cur,h1,h2,h3,h4,h5,h6,h7⟩
theorem OwnE.of_blk{g cap:Nat}{cur:Array Value}(h1:v=.slice (some ⟨g,0,none⟩) l.length cap)(h2:B≤g)(h3:HasC T g cur w)(h4:l.length≤cap)(h5:cap≤maxLen)(h6:cur.size=cap*n)(h7:cur.toList.take (l.length*n)=l.flatMap fun x=>(cells x).toList)(hl:∀x,(cells x).toList.length=n):OwnE w B T n cells v l :=
 ⟨zIk (fun x=>(cells x).toList) hl l,.inr ⟨g,cap,cur,h1,h2,h3,h4,h5,h6,h7⟩⟩
theorem OwnE.range(h:OwnE w B T n cells v l)(hn:0<n)(hl:∀x,(cells x).toList.length=n){k:Nat}(hk:k<l.length) :
  ∃g cap,v=.slice (some ⟨g,0,none⟩) l.length cap∧B≤g∧l.length≤cap∧w.rangeAt g (k*n) (cells l[k]).toList∧w.there g (k*n) n:=by
 obtain⟨g,cap,cur,rfl,h2,h3,h4,h5,h6,h7⟩:=h.blk (by omega)
 have hkn:k*n+n≤l.length*n:=by
  have:=Nat.mul_le_mul_right n (show k+1≤l.length by omega);rw[Nat.succ_mul]at this;exact this
 have hcap:l.length*n≤cur.size:=by rw[h6];exact Nat.mul_le_mul_right n h4
 refine⟨g,cap,rfl,h2,h4,fun j u hu=>?_,fun j hj=>⟨?_,h3.frz _⟩⟩
 ·rw[h3.cell (k*n+j)]
  have hj:j<n:=by
   rcases Nat.lt_or_ge j n with h|h
   ·exact h
   ·rw[List.getElem?_eq_none (by rw[hl];exact h)]at hu;cases hu
  have e:(cur.toList.take (l.length*n))[k*n+j]? = some u:=by
   rw[h7,zFq (fun x=>(cells x).toList) hn hl,Nat.mul_comm k n,Nat.mul_add_div hn,Nat.div_eq_of_lt hj,Nat.add_zero,Nat.mul_add_mod,Nat.mod_eq_of_lt hj,List.getElem?_eq_getElem hk];exact hu
  rw[List.getElem?_take_of_lt (by omega)]at e;simpa using e
 ·rw[h3.cell (k*n+j),Array.getElem?_eq_getElem (by omega)]
  rfl
theorem flat_set(hn:0<n)(hl:∀x,(cells x).toList.length=n){k:Nat}(hk:k<l.length)(x:α)(i:Nat) :
  ((zDb l k x).flatMap fun x=>(cells x).toList)[i]? = if k*n≤i∧i<k*n+n then(cells x).toList[i - k*n]? else(l.flatMap fun x=>(cells x).toList)[i]?:=by
 rw[zFq (fun x=>(cells x).toList) hn hl,zFq (fun x=>(cells x).toList) hn hl]
 have hs:∀q,(zDb l k x)[q]? = if q=k then some x else l[q]?:=by
  intro q;unfold zDb;have hlen:(l.take k).length=k:=by rw[List.length_take];omega
  rcases Nat.lt_trichotomy q k with h|h|h
  ·rw[if_neg (by omega),List.getElem?_append_left (by rw[hlen];exact h),List.getElem?_take_of_lt h]
  ·subst h
   rw[if_pos rfl,List.getElem?_append_right (by rw[hlen];exact Nat.le_refl _),hlen,Nat.sub_self];rfl
  ·rw[if_neg (by omega),List.getElem?_append_right (by rw[hlen];omega),hlen]
   obtain⟨d,rfl⟩:∃d,q=k+1+d:=⟨q - (k+1),by omega⟩;rw[show k+1+d - k=d+1 from by omega,List.getElem?_cons_succ,List.getElem?_drop]
 rw[hs];have hd:=Nat.div_add_mod i n;have hm:=Nat.mod_lt i hn;by_cases hq:i / n=k
 ·have e1:k*n≤i∧i<k*n+n:=by rw[←hq,Nat.mul_comm];omega
  rw[if_pos hq,if_pos e1];have:i - k*n=i % n:=by rw[←hq,Nat.mul_comm];omega
  rw[this];rfl
 ·have e1:¬(k*n≤i∧i<k*n+n):=by
   rintro⟨h1,h2⟩;apply hq;apply Nat.div_eq_of_lt_le h1;rw[Nat.succ_mul];exact h2
  rw[if_neg hq,if_neg e1]
theorem setAtL_length{k:Nat}(hk:k<l.length)(x:α):(zDb l k x).length=l.length:=by
 unfold zDb;simp;omega
theorem zGm:∀(vs:List Value) (o:Nat) (cs:Array Value),(zEh cs o vs).size=cs.size
 |[],_,_=>rfl
 |v :: r,o,cs=>by unfold zEh;rw[zGm r (o+1) _,Array.size_setIfInBounds]
end
def Part(E:TypeId)(g o:Nat)(cur cs:Array Value)(w:World):Prop:=HasC E g (zEh cur o cs.toList) w∧o+cs.size≤cur.size
section
variable {E : TypeId} {g o : Nat} {cur cs : Array Value} {w w' : World}
theorem setAll_same{cur cs:Array Value}{o:Nat}(h:∀j,j<cs.size→cur[o+j]? = cs[j]?):zEh cur o cs.toList=cur:=by
 apply Array.ext_getElem?;intro k;rw[zDk];split
 ·rename_i hk
  have:=h (k - o) (by have:=hk.2.1;simp at this;omega);rw[show o+(k - o)=k from by omega]at this;rw[this];simp
 ·rfl
theorem Part.start(h:HasC E g cur w)(hs:o+cs.size≤cur.size)(hc:∀j,j<cs.size→cur[o+j]? = cs[j]?):Part E g o cur cs w:=⟨by rw[setAll_same hc];exact h,hs⟩
theorem Part.cell(h:Part E g o cur cs w){j:Nat}(hj:j<cs.size):w.cell? ⟨g,o+j,none⟩=cs[j]?:=by
 have h2:=h.2
 have hc:o≤o+j∧o+j<o+cs.toList.length∧o+j<cur.size:=by
  rw[Array.length_toList];omega
 rw[h.1.cell (o+j),zDk,if_pos hc,Nat.add_sub_cancel_left];simp
theorem Part.frz(h:Part E g o cur cs w)(j:Nat):w.frozen? ⟨g,o+j,none⟩=false:=h.1.frz _
theorem Part.lt(h:Part E g o cur cs w):g<w.heap.size:=zCv h.1
theorem setAll_put(vs:List Value)(o j:Nat)(cur:Array Value)(v:Value)(hj:j<vs.length)(ho:o+vs.length≤cur.size):(zEh cur o vs).setIfInBounds (o+j) v=zEh cur o (vs.set j v):=by
 apply Array.ext_getElem?;intro k;rw[Array.getElem?_setIfInBounds,zDk,zDk,zGm,List.length_set];by_cases hk:o+j=k
 ·subst hk
  rw[if_pos rfl,if_pos (show o+j<cur.size by omega),if_pos ⟨by omega,by omega,by omega⟩,Nat.add_sub_cancel_left,List.getElem?_set_self hj]
 ·rw[if_neg hk]
  split
  ·rename_i h
   rw[List.getElem?_set_ne (by omega)]
  ·rfl
theorem Part.put(h:Part E g o cur cs w){cs' : Array Value}{j:Nat}(hj:j<cs.size)(v:Value)(e:cs.setIfInBounds j v=cs'):Part E g o cur cs' (w.setCell ⟨g,o+j,none⟩ v):=by
 subst e;refine⟨?_,by rw[Array.size_setIfInBounds];exact h.2⟩;have:=Lib.heap_setCell_same (i:=o+j) h.1 v;unfold HasC;rw[this,setAll_put _ _ _ _ _ (by simpa using hj) (by simpa using h.2)];simp
theorem Part.frame(h:Part E g o cur cs w){row:Option Nat}(hg:w.grownBy w' row)(hr:row≠some g):Part E g o cur cs w' := ⟨h.1.grown hg (fun e=>hr e.symm),h.2⟩
end
section
variable {α : Type} {w : World} {B n : Nat} {T : TypeId} {cells : α → Array Value} {l : List α}
theorem OwnE.part{v:Value}(h:OwnE w B T n cells v l)(hn:0<n)(hl:∀x,(cells x).toList.length=n){k:Nat}(hk:k<l.length) :
  ∃g cap cur,v=.slice (some ⟨g,0,none⟩) l.length cap∧B≤g∧Part T g (k*n) cur (cells l[k]) w ∧
   ∀(w' : World) (x:α),HasC T g (zEh cur (k*n) (cells x).toList) w' → OwnE w' B T n cells v (zDb l k x):=by
 obtain⟨g,cap,cur,rfl,h2,h3,h4,h5,h6,h7⟩:=h.blk (by omega)
 have hkn:k*n+n≤l.length*n:=by
  have:=Nat.mul_le_mul_right n (show k+1≤l.length by omega);rw[Nat.succ_mul]at this;exact this
 have hcap:l.length*n≤cur.size:=by rw[h6];exact Nat.mul_le_mul_right n h4
 have hsz:(cells l[k]).size=n:=by rw[←Array.length_toList];exact hl _
 refine⟨g,cap,cur,rfl,h2,Part.start h3 (by rw[hsz];omega) (fun j hj=>?_),fun w' x hx=>?_⟩
 ·obtain⟨g', cap', e,_,_,hr,_⟩:=h.range hn hl hk
  injection e with e1 _ e3
  injection e1 with e1
  injection e1 with e1 _ _
  subst e1;rw[←h3.cell (k*n+j)];have:=hr j _ (List.getElem?_eq_getElem (by rw[hl];omega));rw[this,←Array.getElem?_toList,List.getElem?_eq_getElem (by rw[hl];omega)]
 ·have hlen:=setAtL_length (l:=l) hk x
  refine OwnE.of_blk (g:=g) (cap:=cap) (cur:=zEh cur (k*n) (cells x).toList) (by rw[hlen]) h2 hx (by rw[hlen];exact h4) h5 (by rw[zGm];exact h6) ?_ hl;rw[hlen];apply List.ext_getElem?;intro i;rw[flat_set hn hl hk x i];by_cases hi:i<l.length*n
  ·rw[List.getElem?_take_of_lt hi]
   have ht:(zEh cur (k*n) (cells x).toList).toList[i]? = (zEh cur (k*n) (cells x).toList)[i]?:=by simp
   rw[ht,zDk,hl x]
   have e2:(l.flatMap fun x=>(cells x).toList)[i]? = cur[i]?:=by
    rw[←h7,List.getElem?_take_of_lt hi];simp
   rw[e2];by_cases h8:k*n≤i∧i<k*n+n
   ·rw[if_pos h8,if_pos ⟨h8.1,h8.2,by omega⟩]
   ·rw[if_neg h8,if_neg (fun h=>h8 ⟨h.1,h.2.1⟩)]
  ·rw[List.getElem?_eq_none (by rw[List.length_take];omega),if_neg (by omega),List.getElem?_eq_none (by rw[zIk (fun x=>(cells x).toList) hl];omega)]
end
structure Fr (rs:List Nat) (w w' : World):Prop where
 os:w'.os=w.os
 tape:w'.tape=w.tape
 output:w'.output=w.output
 size:w.heap.size≤w'.heap.size
 block:∀k,k<w.heap.size→k∉rs→w'.heap[k]? = w.heap[k]?
section
variable {rs rs' : List Nat} {w w' w'' : World} {B b g : Nat}
theorem Fr.refl(rs:List Nat)(w:World):Fr rs w w:=⟨rfl,rfl,rfl,Nat.le_refl _,fun _ _ _=>rfl⟩
theorem Fr.trans(h:Fr rs w w')(h' : Fr rs w' w''):Fr rs w w'' :=
 ⟨h'.os.trans h.os,h'.tape.trans h.tape,h'.output.trans h.output,Nat.le_trans h.size h'.size,fun k hk hn=>(h'.block k (Nat.lt_of_lt_of_le hk h.size) hn).trans (h.block k hk hn)⟩
theorem Fr.of_grown{row:Option Nat}(h:w.grownBy w' row)(hr:∀g,row=some g→g∈rs):Fr rs w w' :=
 ⟨h.os,h.tape,h.output,h.size,fun k hk hn=>h.block k hk (fun e=>hn (hr k e.symm))⟩
theorem Fr.ofOne(h:w.grownBy w' (some b))(hb:b∈rs):Fr rs w w' := Fr.of_grown h (fun g e=>by cases e;exact hb)
theorem Fr.of_below(h:Below w.heap.size w w'):Fr rs w w' := ⟨h.os,h.tape,h.output,h.size,fun k hk _=>h.block k hk⟩
theorem Fr.mono(h:Fr rs w w')(hs:∀k∈rs,k∈rs'):Fr rs' w w' := ⟨h.os,h.tape,h.output,h.size,fun k hk hn=>h.block k hk (fun e=>hn (hs k e))⟩
theorem Fr.below(h:Fr rs w w')(hr:∀k∈rs,B≤k)(hB:B≤w.heap.size):Below B w w' :=
 ⟨h.os,h.tape,h.output,h.size,fun k hk=>h.block k (by omega) (fun e=>by have:=hr k e;omega)⟩
theorem Fr.set(w:World)(hb:b∈rs)(j:Nat)(v:Value):Fr rs w (w.setCell ⟨b,j,none⟩ v):=Fr.ofOne (zDi w b j v) hb
theorem HasC.fr{E:TypeId}{cur:Array Value}(h:HasC E g cur w)(hf:Fr rs w w')(hg:g∉rs):HasC E g cur w' := (hf.block g (zCv h) hg).trans h
theorem Orow.own.fr{r:Orow}(h:r.own w B)(hf:Fr rs w w')(hn:∀g,r.v.ownBlock=.some g→g∉rs):r.own w' B:=by
 have hlt:=fun g hg=>(Orow.own.lt h (g:=g) hg).1
 obtain⟨hl,h⟩:=h;refine⟨hl,?_⟩;rcases h with h|⟨g', cap,cur,h1,h2,h3,h4⟩
 ·exact .inl h
 ·have hb:r.v.ownBlock=.some g' := by rw[h1];rfl
  exact .inr ⟨g', cap,cur,h1,h2,(hf.block g' (hlt _ hb) (hn g' hb)).trans h3,h4⟩
theorem OwnAll.fr{l:List Orow}(h:OwnAll w B l)(hf:Fr rs w w')(hn:∀g∈l.filterMap (·.v.ownBlock),g∉rs):OwnAll w' B l :=
 ⟨fun r hr=>Orow.own.fr (h.1 r hr) hf (fun g hg=>hn g (List.mem_filterMap.2 ⟨r,hr,hg⟩)),h.2⟩
end
def EnvA(B:Nat)(w:World):Prop:=Env w∧3<B∧0<B
theorem EnvA.keep{B:Nat}{w w' : World}(h:EnvA B w)(hb:Below B w w'):EnvA B w' := by
 obtain⟨⟨⟨m,hm⟩,ht,h1,h2⟩,hB1,hB2⟩:=h;refine⟨⟨⟨m,?_⟩,var?_below hb Tryz.gPow hB2 ht,Nat.lt_of_lt_of_le h1 hb.size,Nat.lt_of_lt_of_le h2 hb.size⟩,hB1,hB2⟩;rw[hb.cell (p:=⟨3,0,none⟩) hB1];exact hm
theorem EnvA.up{B B' : Nat}{w:World}(h:EnvA B w)(hB:B≤B'):EnvA B' w:=⟨h.1,Nat.lt_of_lt_of_le h.2.1 hB,Nat.lt_of_lt_of_le h.2.2 hB⟩
theorem EnvA.on{B b:Nat}{w w' : World}(h:EnvA B w)(hg:w.grownBy w' (some b))(hB:B≤b)(hw:B≤w.heap.size):EnvA B w' := h.keep (zBj hg hB hw)
theorem wV_short{p:Ps}(h:p.short):(str (wV p)).size≤1000000000:=by
 rw[zBx];obtain⟨fs,bad⟩:=p;cases fs with
 |nil=>simp[wV]
 |cons f r=>exact h f (by simp)
theorem wbox_end{T:TypeId}{b B:Nat}{p:Ps}{w w4:World}(h4:WSt T b B p w4)(hk:w.grownBy w4 (some b))(hlt:b<w.heap.size)(x y:Value) :
  WSt T b B p ((w4.setCell ⟨w.heap.size,0,none⟩ x).setCell ⟨w.heap.size,1,none⟩ y)∧w.grownBy ((w4.setCell ⟨w.heap.size,0,none⟩ x).setCell ⟨w.heap.size,1,none⟩ y) (some b):=by
 have hB:=h4.1;have hs:=((Below.refl w.heap.size w4).setCell (p:=⟨w.heap.size,0,none⟩) (Nat.le_refl _) x).setCell (p:=⟨w.heap.size,1,none⟩) (Nat.le_refl _) y;have hn:∀g,some w.heap.size=some g→B≤g∧g≠b:=fun g e=>by injection e with e;omega
 exact⟨(h4.other (zDi _ _ 0 x) hn).other (zDi _ _ 1 y) hn,zEj hk hs⟩
theorem optS_no{x:List UInt8}{p:Ps}(h:isW x p=false):optS x p=p:=by unfold optS;rw[h];rfl
theorem wchoice_any(b B:Nat)(p:Ps)(x y:List UInt8)(w:World)(h:WSt 185 b B p w):Calls Tryz.prog 187 #[.pointer (some ⟨b,0,none⟩),.string (str x),.string (str y)] w (WPost 185 b B (.bool (chB x y p)) (chS x y p) w):=by
 have H:=hid h;have HN:=hid (fun w h=>zFp b B p w h);have HM:=hid (fun p ok w h=>zFb b B p ok w h);unfold strV at HN;have q1:((str (wV p)).toList==(str x).toList)=(wV p==x):=by rw[zAe,zAe]
 have q2:((str (wV p)).toList==(str y).toList)=(wV p==y):=by rw[zAe,zAe]
 have E:Hid (chB x y p=(wV p==x)∧chS x y p=mustS (wV p==x||wV p==y) (wS p)):=hid ⟨rfl,rfl⟩;clear h;cases e1:(wV p==x)with
 |true=>
  rw[e1]at q1;have E1:=hid e1;clear q2 e1;go_enter Tryz.func187,Tryz.ntmps187;go_wp2_with fail;refine(HN.out _ H.out).mono ?_;rintro e w1 ⟨rfl,h1,k1⟩;go_wp2_with fail;refine(HM.out _ _ _ h1).mono ?_;rintro e w2 ⟨rfl,h2,k2⟩;go_wp2;go_ret;exact⟨zAg (by rw[E.out.1,E1.out]),by rw[E.out.2];simpa only[E1.out,Bool.or_true,Bool.true_or,Bool.or_false] using h2,k1.trans k2⟩
 |false=>
  rw[e1]at q1;have E1:=hid e1;clear e1;cases e2:(wV p==y)with
  |true=>
   rw[e2]at q2;have E2:=hid e2;clear e2;go_enter Tryz.func187,Tryz.ntmps187;go_wp2_with fail;refine(HN.out _ H.out).mono ?_;rintro e w1 ⟨rfl,h1,k1⟩;go_wp2_with fail;refine(HM.out _ _ _ h1).mono ?_;rintro e w2 ⟨rfl,h2,k2⟩;go_wp2;go_ret;exact⟨zAg (by rw[E.out.1,E1.out]),by rw[E.out.2];simpa only[E1.out,E2.out,Bool.or_true,Bool.true_or,Bool.or_false] using h2,k1.trans k2⟩
  |false=>
   rw[e2]at q2;have E2:=hid e2;clear e2;go_enter Tryz.func187,Tryz.ntmps187;go_wp2_with fail;refine(HN.out _ H.out).mono ?_;rintro e w1 ⟨rfl,h1,k1⟩;go_wp2_with fail;refine(HM.out _ _ _ h1).mono ?_;rintro e w2 ⟨rfl,h2,k2⟩;go_wp2;go_ret;exact⟨zAg (by rw[E.out.1,E1.out]),by rw[E.out.2];simpa only[E1.out,E2.out,Bool.or_true,Bool.true_or,Bool.or_false] using h2,k1.trans k2⟩
theorem zGu(b B:Nat)(p:Ps)(w:World)(h:WSt 185 b B p w):Calls Tryz.prog 161 #[.pointer (some ⟨b,0,none⟩)] w (WPost 185 b B (strV (nmV p)) (nmS p) w):=by
 have H:=hid h;have HN:=hid (fun w h=>zFp b B p w h);have HM:=hid (fun p ok w h=>zFb b B p ok w h);have HK:=hid (fun w=>name_any (str (wV p)) w);rw[zBq]at HK;unfold strV at HN;have E:Hid (nmV p=wV p∧nmS p=mustS (nameB (wV p)) (wS p)):=hid ⟨rfl,rfl⟩;clear h;go_enter Tryz.func161,Tryz.ntmps161;go_wp2_with fail;refine(HN.out _ H.out).mono ?_;rintro e w1 ⟨rfl,h1,k1⟩;go_wp2_with fail;refine(HK.out _).mono ?_;rintro e w2 ⟨rfl,rfl⟩;go_wp2_with fail;refine(HM.out _ _ _ h1).mono ?_;rintro e w2 ⟨rfl,h2,k2⟩;go_wp2;go_ret;exact⟨by rw[E.out.1];rfl,by rw[E.out.2];exact h2,k1.trans k2⟩
theorem zEr(b B:Nat)(p:Ps)(lo hi:Int)(w:World)(h:WSt 185 b B p w):Calls Tryz.prog 171 #[.pointer (some ⟨b,0,none⟩),.int .i64 lo,.int .i64 hi] w (WPost 185 b B (.int .i64 (noV lo hi p)) (noS lo hi p) w):=by
 have H:=hid h;have HN:=hid (fun w h=>zFp b B p w h);have HM:=hid (fun p ok w h=>zFb b B p ok w h);have HK:=hid (fun w=>zJk (str (wV p)) lo hi w);rw[zBq]at HK;unfold strV at HN;have E:Hid (noV lo hi p=numV (numIn (wV p) lo hi)∧noS lo hi p=mustS (numIn (wV p) lo hi).isSome (wS p)):=hid ⟨rfl,rfl⟩;clear h;go_enter Tryz.func171,Tryz.ntmps171;go_wp2_with fail;refine(HN.out _ H.out).mono ?_;rintro e w1 ⟨rfl,h1,k1⟩;go_wp2_with fail;refine(HK.out _).mono ?_;rintro e w2 ⟨rfl,rfl⟩;go_wp2_with fail;refine(HM.out _ _ _ h1).mono ?_;rintro e w2 ⟨rfl,h2,k2⟩;go_wp2;go_ret;exact⟨by rw[E.out.1];rfl,by rw[E.out.2];exact h2,k1.trans k2⟩
theorem waddress_any(b B:Nat)(p:Ps)(w:World)(h:WSt 185 b B p w)(he:EnvA B w)(hs:p.short):Calls Tryz.prog 219 #[.pointer (some ⟨b,0,none⟩)] w (WPost 185 b B (.int .u32 (adV p:Int)) (adS p) w):=by
 have hB:=h.1;have hlt:=h.lt;have hss:=wV_short hs;have H:=hid h;have HE:=hid he;have HN:=hid (fun w h=>zFp b B p w h);have HM:=hid (fun p ok w h=>zFb b B p ok w h);have HK:=hid (fun w he=>parse_any (str (wV p)) w he hss);rw[zBq]at HK;unfold strV at HN;have E:Hid (adV p=(zDa (wV p)).getD 0∧adS p=mustS (zDa (wV p)).isSome (wS p)):=hid ⟨rfl,rfl⟩;clear h he hs;go_enter Tryz.func219,Tryz.ntmps219;go_wp2_with fail;refine(HN.out _ H.out).mono ?_;rintro e w1 ⟨rfl,h1,k1⟩;go_wp2_with fail;refine(HK.out _ (HE.out.on k1 hB (by omega)).1).mono ?_;rintro e w2 ⟨rfl,k2⟩;go_wp2_with fail;refine(HM.out _ _ _ (h1.keep k2)).mono ?_;rintro e w3 ⟨rfl,h3,k3⟩;go_wp2;go_ret;exact⟨by rw[E.out.1];rfl,by rw[E.out.2];exact h3,(zEj k1 (k2.mono k1.size)).trans k3⟩
set_option maxHeartbeats 1000000 in
theorem wprefix_any(b B:Nat)(p:Ps)(w:World)(h:WSt 185 b B p w)(he:EnvA B w)(hs:p.short):Calls Tryz.prog 167 #[.pointer (some ⟨b,0,none⟩)] w (WPost 185 b B (.agg #[.int .u32 ((pxV p).1:Int),.int .i64 (pxV p).2]) (pxS p) w):=by
 have hB:=h.1;have hlt:=h.lt;have hss:=wV_short hs;have H:=hid h;have HE:=hid he;have HN:=hid (fun w h=>zFp b B p w h);have HM:=hid (fun p ok w h=>zFb b B p ok w h);have HK:Hid (∀w,Env w→Calls Tryz.prog 210 #[.string (str (wV p))] w fun e w' => e=.returned (.tuple #[.agg #[.int .u32 ((pxV p).1:Int),.int .i64 (pxV p).2],.bool (pfxA (wV p)).isSome])∧Below w.heap.size w w'):=hid (fun w he=>by have:=parsePrefix_any (str (wV p)) w he hss;rw[zBq]at this;exact this);unfold strV at HN;have E:Hid (pxS p=mustS (pfxA (wV p)).isSome (wS p)):=hid rfl;clear h he hs hss;generalize (((pxV p).1:Int):Int)=va at HK⊢;generalize ((pxV p).2:Int)=vb at HK⊢;generalize (pfxA (wV p)).isSome=vo at HK E;go_enter Tryz.func167,Tryz.ntmps167;go_wp2_with fail;refine(HN.out _ (H.out.keep ((Below.refl _ w).alloc (Nat.le_refl _) _))).mono ?_;rintro e w1 ⟨rfl,h1,k1⟩;have H1:=hid h1;obtain⟨hz1,c0,c1,f0⟩:=far_box k1 hlt;have K1:=hid ((World.grownBy_alloc w _ _).trans k1);have HE1:=hid ((HE.out.keep ((Below.refl B w).alloc (by omega) _)).on k1 hB (by simp;omega));clear h1 k1;go_wp2_with fail;refine(HK.out w1 HE1.out.1).mono ?_;rintro e w2 ⟨rfl,hb2⟩;obtain⟨hz2,d0,d1,g0⟩:=far_below hb2 hz1 c0 c1 f0;have H2:=hid (H1.out.keep hb2);have K2:=hid (zEj K1.out (hb2.mono (by omega)));clear hb2 c0 c1 f0;have c0' := zDq hz2 d0;have c1' := zDq hz2 d1;have f0' := zFh hz2 g0;clear d0 d1 g0;go_wp2_with fail;refine(HM.out _ _ _ (H2.out.keep ((Below.refl _ w2).alloc (Nat.le_refl _) _))).mono ?_;rintro e w3 ⟨rfl,h3,k3⟩;obtain⟨hz3,e0,e1,g3⟩:=far_box k3 (by omega);obtain⟨hz4,r0,r1,g4⟩:=far_on k3 (g:=w.heap.size) (by simp;omega) (by omega) (c0' _) (c1' _) (f0' _);have H3:=hid h3;have K3:=hid ((K2.out.trans (World.grownBy_alloc w2 _ _)).trans k3);clear h3 k3 c0' c1' f0';go_wp2_with fail;refine bodyPost_ret (v:=.agg #[.int .u32 va,.int .i64 vb]) (by simp[results,Tryz.results167,go_sem, *]) rfl ⟨rfl,?_⟩;rw[E.out];exact wbox_end H3.out K3.out hlt _ _
end Go.Proofs.YthcnojmldldpeaaGreatDoor
