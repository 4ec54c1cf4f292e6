/- A region whose order is drawn: the first operations each give one value in every world that meets S and keep S; the others come up behind them, one after the other. Condition: S holds ahead of the region. -/
import Derived.Test.YthcnojmldldpeaaGreatDoorProg
import Derived.Deep.RegionHeld3
import Derived.WalkKit
namespace Go.Proofs.YthcnojmldldpeaaGreatDoor
section
variable {P : Program} {ops : Array Oper} {Q : Exit → Act → World → Prop} {S : World → Prop}
def Leads(P:Program)(S:World→Prop)(v:Value):Result Next→Prop
 |.ok (.value u) w' => u=v∧S w'
 |.ok (.enter f args) w' => Calls P f args w' fun e w'' => e=.returned v∧S w''
 |_=>False
def Gives(P:Program)(ops:Array Oper)(S:World→Prop)(o:Oper)(v:Value)(a:Act):Prop :=
 (Region.wanted o (yielded ops a.tmps)=true∧∀w,S w→Leads P S v ((execOp a.eval o).run P w)) ∨
 (Region.wanted o (yielded ops a.tmps)=false∧v=undef)
theorem Gives.of_put{o:Oper}{v u:Value}{a:Act}{d:Option Tmp}(hs:∀cs b,o.op≠.select cs b)(hd:∀t,d=some t→t∉o.looksAt ops)(h:Gives P ops S o v (a.put d u)):Gives P ops S o v a:=by
 unfold Gives at *
 rwa [execOp_put (ops:=ops) o hs a d u hd,wanted_put o a d u hd]at h
theorem Gives.to_put{o:Oper}{v u:Value}{a:Act}{d:Option Tmp}(hs:∀cs b,o.op≠.select cs b)(hd:∀t,d=some t→t∉o.looksAt ops)(h:Gives P ops S o v a):Gives P ops S o v (a.put d u):=by
 unfold Gives at *
 rwa [execOp_put (ops:=ops) o hs a d u hd,wanted_put o a d u hd]
theorem Gives.wpOp{i:Nat}{o:Oper}{v:Value}{a:Act}{w:World}{K:Act→World→Prop}(hi:ops[i]? = some o)(h:Gives P ops S o v a)(hS:S w)(hK:∀w', S w' → K (a.put o.dst v) w'):wpOp P ops Q i K a w:=by
 unfold Go.wpOp;simp only[hi];rcases h with⟨hw,hv⟩|⟨hw,rfl⟩
 ·rw[if_pos hw]
  refine .inl ?_;have h1:=hv w hS;unfold Oper.wp;generalize (execOp a.eval o).run P w=r at h1;unfold Leads at h1;split at h1
  ·obtain⟨rfl,h2⟩:=h1
   exact hK _ h2
  ·exact h1.mono fun e w'' ⟨he,h2⟩=>by subst he;exact hK _ h2
  ·exact h1.elim
 ·rw[if_neg (by rw[hw];decide)]
  exact hK _ hS
def FixAll(P:Program)(ops:Array Oper)(Q:Exit→Act→World→Prop)(S:World→Prop):Nat→Array Bool→Act→Prop
 |0,listed,a=>Region.ready .any ops listed=[]∧∀w,S w→Q .normal a w
 |fuel+1,listed,a=>(Region.ready .any ops listed=[]→∀w,S w→Q .normal a w) ∧
  ∀i∈Region.ready .any ops listed,∃o v,ops[i]? = some o∧Gives P ops S o v a∧FixAll P ops Q S fuel (listed.setIfInBounds i true) (a.put o.dst v)
theorem FixAll.wpAny:∀(fuel:Nat) (listed:Array Bool) (a:Act) (w:World),FixAll P ops Q S fuel listed a→S w→wpAny P .any ops Q fuel listed a w
 |0,_,_,w,h,hS=>⟨h.1,h.2 w hS⟩
 |fuel+1,_,_,w,h,hS=>⟨fun h0=>h.1 h0 w hS,fun i hi=>by
  obtain⟨o,v,ho,hg,hf⟩:=h.2 i hi
  exact hg.wpOp ho hS fun w' h' => FixAll.wpAny fuel _ _ w' hf h'⟩
theorem FixAll.first{i:Nat}{oi:Oper}{v:Value}(hi:ops[i]? = some oi)(hsel:∀(j:Nat) (o:Oper) cs b,ops[j]? = some o→o.op≠.select cs b) :
  ∀(fuel:Nat) (listed:Array Bool) (a:Act),
   (∀j oj,ops[j]? = some oj→j≠i→listed.getD j true=false→(∀e∈oj.after,Region.binds .any e=true→e.on≠i)→oi.apart ops oj=true) →
   i∈Region.ready .any ops listed→Gives P ops S oi v a →
   FixAll P ops Q S fuel (listed.setIfInBounds i true) (a.put oi.dst v)→FixAll P ops Q S (fuel+1) listed a:=by
 intro fuel;induction fuel with
 |zero=>
  intro listed a _ hr hy H;refine⟨fun h=>(by rw[h]at hr;cases hr),fun j hj=>?_⟩;by_cases hji:j=i
  ·subst hji;exact⟨oi,v,hi,hy,H⟩
  ·have:=ready_mono hj hji
   rw[H.1]at this;cases this
 |succ fuel ih=>
  intro listed a hfree hr hy H;refine⟨fun h=>(by rw[h]at hr;cases hr),fun j hj=>?_⟩;by_cases hji:j=i
  ·subst hji;exact⟨oi,v,hi,hy,H⟩
  ·obtain⟨oj', u,hoj', hgj,hfj⟩:=H.2 j (ready_mono hj hji)
   obtain⟨hjun,oj,hoj,hall⟩:=mem_ready.1 hj;obtain rfl:oj' = oj:=Option.some.inj (hoj'.symm.trans hoj)
   have hnot:∀e∈oj'.after,Region.binds .any e=true→e.on≠i:=fun e he hb heq=>by
    have h1:=hall e he hb;have h0:=(mem_ready.1 hr).1;rw[heq]at h1;rcases Nat.lt_or_ge i listed.size with h' | h'
    ·simp[h']at h0 h1;rw[h0]at h1;cases h1
    ·simp[Array.getElem?_eq_none h']at h1
   obtain⟨s1,s2,s3⟩:=Oper.apart_spec (hfree j oj' hoj hji hjun hnot);refine⟨oj', u,hoj,hgj.of_put (fun cs b=>hsel j oj' cs b hoj) s1,ih (listed.setIfInBounds j true) (a.put oj'.dst u) (fun k ok hk hki hun hno=>?_) (ready_mono hr (Ne.symm hji)) (hy.to_put (fun cs b=>hsel i oi cs b hi) s3) ?_⟩
   ·refine hfree k ok hk hki ?_ hno
    by_cases hjk:j=k
    ·subst hjk;exact hjun
    ·rw[getD_set_ne true hjk]at hun;exact hun
   ·rw[Array.setIfInBounds_comm _ _ hji,←Act.put_comm a v u s2]
    exact hfj
def lst(n:Nat):Nat→Array Bool
 |0=>Array.replicate n false
 |k+1=>(lst n k).setIfInBounds k true
def seqOk(ops:Array Oper):Bool:=Region.noSelect ops&&((List.range ops.size).all fun k=>Region.free .any ops (lst ops.size k) k&&(Region.ready .any ops (lst ops.size k)).contains k)&&(Region.ready .any ops (lst ops.size ops.size)).isEmpty
def Seq(P:Program)(ops:Array Oper)(Q:Exit→Act→World→Prop)(S:World→Prop):List Oper→Act→Prop
 |[],a=>∀w,S w→Q .normal a w
 |o :: r,a=>∃v,Gives P ops S o v a∧Seq P ops Q S r (a.put o.dst v)
theorem fix_of_seq(hc:seqOk ops=true):∀(m k:Nat) (a:Act),k+m=ops.size→Seq P ops Q S (ops.toList.drop k) a→FixAll P ops Q S m (lst ops.size k) a:=by
 simp only[seqOk,Bool.and_eq_true,List.all_eq_true,List.mem_range,List.isEmpty_iff]at hc;obtain⟨⟨h1,h2⟩,h3⟩:=hc;intro m;induction m with
 |zero=>
  intro k a hk hs;obtain rfl:k=ops.size:=by omega
  rw[List.drop_of_length_le (by simp)]at hs;exact⟨h3,hs⟩
 |succ m ih=>
  intro k a hk hs;have hlt:k<ops.size:=by omega
  have hd:ops.toList.drop k=ops[k] :: ops.toList.drop (k+1):=by
   rw[←List.getElem_cons_drop (by simpa using hlt)];rfl
  rw[hd]at hs;obtain⟨v,hg,hr⟩:=hs;have ho:ops[k]? = some ops[k]:=Array.getElem?_eq_getElem hlt;obtain⟨f1,f2⟩:=h2 k hlt;exact FixAll.first ho (Region.noSelect_spec h1) m _ _ (Region.free_spec ho f1) (by simpa using f2) hg (ih (k+1) _ (by omega) hr)
theorem zAo{id:Nat}{a:Act}{w:World}(S:World→Prop)(hm:P.follows .mixedOrders=true)(hc:seqOk ops=true)(hS:S w.drew)(h:Seq P ops Q S ops.toList a):(Code.region id ops true).wp P Q a w :=
 wp_region_any hm (FixAll.wpAny _ _ _ _ (fix_of_seq hc ops.size 0 a (by omega) h) hS)
theorem zIs{o:Oper}{r:List Oper}{a:Act}(hw:Region.wanted o (yielded ops a.tmps)=false)(h:Seq P ops Q S r (a.put o.dst undef)):Seq P ops Q S (o :: r) a:=⟨undef,.inr ⟨hw,rfl⟩,h⟩
theorem zBd{o:Oper}{r:List Oper}{a:Act}{v:Value}(hw:Region.wanted o (yielded ops a.tmps)=true)(hv:∀w,S w→(execOp a.eval o).run P w=.ok (.value v) w)(h:Seq P ops Q S r (a.put o.dst v)):Seq P ops Q S (o :: r) a :=
 ⟨v,.inl ⟨hw,fun w hS=>by rw[hv w hS];exact⟨rfl,hS⟩⟩,h⟩
theorem zAm{o:Oper}{r:List Oper}{a:Act}{v:Value}{f:FuncId}{args:Array Value}(hw:Region.wanted o (yielded ops a.tmps)=true)(hv:∀w,S w→(execOp a.eval o).run P w=.ok (.enter f args) w)(hc:∀w,S w→Calls P f args w fun e w' => e=.returned v∧S w')(h:Seq P ops Q S r (a.put o.dst v)):Seq P ops Q S (o :: r) a :=
 ⟨v,.inl ⟨hw,fun w hS=>by rw[hv w hS];exact hc w hS⟩,h⟩
theorem zBo{a:Act}(h:∀w,S w→Q .normal a w):Seq P ops Q S [] a:=h
end
section
variable {P : Program} {ops : Array Oper} {Q : Exit → Act → World → Prop} {S : World → Prop}
def Down(ops:Array Oper)(listed:Array Bool):Prop:=∀k o,ops[k]? = some o→listed.getD k false=true→∀e∈o.after,Region.binds .any e=true→listed.getD e.on false=true
theorem Down.set{listed:Array Bool}{i:Nat}(h:Down ops listed)(hi:i∈Region.ready .any ops listed):Down ops (listed.setIfInBounds i true):=fun k o hk hl e he hb=>by
 by_cases hki:i=k
 ·subst hki
  obtain⟨-,o', ho', hall⟩:=mem_ready.1 hi;obtain rfl:o' = o:=Option.some.inj (ho'.symm.trans hk);exact getD_set_true (hall e he hb)
 ·rw[getD_set_ne false hki]at hl
  exact getD_set_true (h k o hk hl e he hb)
def FixT(P:Program)(ops:Array Oper)(S:World→Prop)(L:Array Bool)(K:Act→Prop):Nat→Array Bool→Act→Prop
 |0,listed,a=>listed=L∧K a
 |fuel+1,listed,a=>Region.ready .any ops listed≠[]∧∀i∈Region.ready .any ops listed,∃o v,ops[i]? = some o∧Gives P ops S o v a∧FixT P ops S L K fuel (listed.setIfInBounds i true) (a.put o.dst v)
theorem FixT.wpAny{L:Array Bool}{m:Nat}:∀(fuel:Nat) (listed:Array Bool) (a:Act) (w:World),FixT P ops S L (fun a=>∀w,S w→wpAny P .any ops Q m L a w) fuel listed a→S w→Go.wpAny P .any ops Q (fuel+m) listed a w
 |0,_,_,w,h,hS=>by rw[Nat.zero_add,h.1];exact h.2 w hS
 |fuel+1,_,_,w,h,hS=>by
  rw[show fuel+1+m=fuel+m+1 by omega]
  exact⟨fun h0=>absurd h0 h.1,fun i hi=>by
   obtain⟨o,v,ho,hg,hf⟩:=h.2 i hi
   exact hg.wpOp ho hS fun w' h' => FixT.wpAny fuel _ _ w' hf h'⟩
theorem FixT.first{L:Array Bool}{K:Act→Prop}{i:Nat}{oi:Oper}{v:Value}(hi:ops[i]? = some oi)(hsel:∀(j:Nat) (o:Oper) cs b,ops[j]? = some o→o.op≠.select cs b)
  (hlast:∀j∈Region.ready .any ops L,(∃c oc e,c≠i∧ops[c]? = some oc∧L.getD c false=true∧e∈oc.after∧Region.binds .any e=true∧e.on=i)∨(∃oj e,ops[j]? = some oj∧e∈oj.after∧Region.binds .any e=true∧e.on=i)) :
  ∀(fuel:Nat) (listed:Array Bool) (a:Act),Down ops listed →
   (∀j oj,ops[j]? = some oj→j≠i→listed.getD j true=false→(∀e∈oj.after,Region.binds .any e=true→e.on≠i)→oi.apart ops oj=true) →
   i∈Region.ready .any ops listed→Gives P ops S oi v a →
   FixT P ops S L K fuel (listed.setIfInBounds i true) (a.put oi.dst v)→FixT P ops S L K (fuel+1) listed a:=by
 have hun:∀{listed:Array Bool},i∈Region.ready .any ops listed→listed.getD i false=true→False:=fun {listed} hr h1=>by
  have h0:=(mem_ready.1 hr).1;rcases Nat.lt_or_ge i listed.size with h' | h'
  ·simp[h']at h0 h1;rw[h0]at h1;cases h1
  ·simp[Array.getElem?_eq_none h']at h1
 intro fuel;induction fuel with
 |zero=>
  intro listed a hD _ hr hy H;refine⟨fun h=>(by rw[h]at hr;cases hr),fun j hj=>?_⟩;by_cases hji:j=i
  ·subst hji;exact⟨oi,v,hi,hy,H⟩
  ·have hjL:=ready_mono hj hji
   rw[H.1]at hjL;rcases hlast j hjL with⟨c,oc,e,hc,hoc,hcl,he,hb,heq⟩|⟨oj,e,hoj,he,hb,heq⟩
   ·rw[←H.1,getD_set_ne false (Ne.symm hc)]at hcl
    exact(hun hr (heq ▸ hD c oc hoc hcl e he hb)).elim
   ·obtain⟨-,o', ho', hall⟩:=mem_ready.1 hj
    obtain rfl:o' = oj:=Option.some.inj (ho'.symm.trans hoj);exact(hun hr (heq ▸ hall e he hb)).elim
 |succ fuel ih=>
  intro listed a hD hfree hr hy H;refine⟨fun h=>(by rw[h]at hr;cases hr),fun j hj=>?_⟩;by_cases hji:j=i
  ·subst hji;exact⟨oi,v,hi,hy,H⟩
  ·obtain⟨oj', u,hoj', hgj,hfj⟩:=H.2 j (ready_mono hj hji)
   obtain⟨hjun,oj,hoj,hall⟩:=mem_ready.1 hj;obtain rfl:oj' = oj:=Option.some.inj (hoj'.symm.trans hoj);have hnot:∀e∈oj'.after,Region.binds .any e=true→e.on≠i:=fun e he hb heq=>hun hr (heq ▸ hall e he hb)
   obtain⟨s1,s2,s3⟩:=Oper.apart_spec (hfree j oj' hoj hji hjun hnot);refine⟨oj', u,hoj,hgj.of_put (fun cs b=>hsel j oj' cs b hoj) s1,ih (listed.setIfInBounds j true) (a.put oj'.dst u) (hD.set hj) (fun k ok hk hki hun hno=>?_) (ready_mono hr (Ne.symm hji)) (hy.to_put (fun cs b=>hsel i oi cs b hi) s3) ?_⟩
   ·refine hfree k ok hk hki ?_ hno
    by_cases hjk:j=k
    ·subst hjk;exact hjun
    ·rw[getD_set_ne true hjk]at hun;exact hun
   ·rw[Array.setIfInBounds_comm _ _ hji,←Act.put_comm a v u s2]
    exact hfj
def downB(ops:Array Oper)(listed:Array Bool):Bool:=(List.range ops.size).all fun k => !listed.getD k false||match ops[k]? with
 |some o=>o.after.all fun e => !Region.binds .any e||listed.getD e.on false
 |none=>true
def waitsB(ops:Array Oper)(c i:Nat):Bool:=match ops[c]? with
 |some o=>o.after.any fun e=>Region.binds .any e&&e.on==i
 |none=>false
def seqTOk(ops:Array Oper)(n:Nat):Bool:=Region.noSelect ops &&
 ((List.range n).all fun k => Region.free .any ops (lst ops.size k) k && (Region.ready .any ops (lst ops.size k)).contains k && downB ops (lst ops.size k) &&
   (Region.ready .any ops (lst ops.size n)).all fun j=>((List.range ops.size).any fun c=>c != k&&(lst ops.size n).getD c false&&waitsB ops c k)||waitsB ops j k) &&
 ((List.range (ops.size - n)).all fun k=>Region.ready .any ops (lst ops.size (n+k))==[n+k])&&(Region.ready .any ops (lst ops.size ops.size)).isEmpty&&Nat.ble n ops.size
theorem downB_spec{listed:Array Bool}(h:downB ops listed=true):Down ops listed:=fun k o hk hl e he hb=>by
 have h1:=List.all_eq_true.1 h k (List.mem_range.2 (Array.getElem?_eq_some_iff.1 hk).1);rw[hk,hl]at h1;simp only[Bool.not_true,Bool.false_or,Array.all_eq_true_iff_forall_mem]at h1;have h2:=h1 e he
 rwa [hb,Bool.not_true,Bool.false_or]at h2
theorem zGn{c i:Nat}(h:waitsB ops c i=true):∃oc e,ops[c]? = some oc∧e∈oc.after∧Region.binds .any e=true∧e.on=i:=by
 unfold waitsB at h;cases ho:ops[c]? with
 |none=>rw[ho]at h;cases h
 |some o=>
  rw[ho]at h;obtain⟨e,he,hb⟩:=Array.any_eq_true'.1 h;simp only[Bool.and_eq_true,beq_iff_eq]at hb;exact⟨o,e,rfl,he,hb.1,hb.2⟩
def SeqT(P:Program)(ops:Array Oper)(S:World→Prop)(K:Act→Prop):List Oper→Act→Prop
 |[],a=>K a
 |o :: r,a=>∃v,Gives P ops S o v a∧SeqT P ops S K r (a.put o.dst v)
theorem tail_any:∀(m k:Nat) (a:Act) (w:World),k+m=ops.size→(∀j,k≤j→j<ops.size→Region.ready .any ops (lst ops.size j)=[j])→Region.ready .any ops (lst ops.size ops.size)=[]→wpList P ops Q (ops.toList.drop k) a w→wpAny P .any ops Q m (lst ops.size k) a w:=by
 intro m;induction m with
 |zero=>
  intro k a w hk _ h0 h;obtain rfl:k=ops.size:=by omega
  rw[List.drop_of_length_le (by simp)]at h;exact⟨h0,h⟩
 |succ m ih=>
  intro k a w hk hr h0 h;have hlt:k<ops.size:=by omega
  have hd:ops.toList.drop k=ops[k] :: ops.toList.drop (k+1):=by
   rw[←List.getElem_cons_drop (by simpa using hlt)];rfl
  rw[hd]at h;have hrk:=hr k (Nat.le_refl _) hlt;refine⟨fun he=>(by rw[hrk]at he;cases he),fun i hi=>?_⟩;rw[hrk]at hi;obtain rfl:=List.mem_singleton.1 hi;have hI:∀a w,wpList P ops Q (ops.toList.drop (i+1)) a w→wpAny P .any ops Q m ((lst ops.size i).setIfInBounds i true) a w:=fun a w h=>ih (i+1) a w (by omega) (fun j hj=>hr j (by omega)) h0 h
  unfold wpList at h;unfold Go.wpOp;simp only[Array.getElem?_eq_getElem hlt];split at h
  ·rename_i hw
   rw[if_pos hw];exact h.imp (Oper.wp_mono hI) id
  ·rename_i hw
   rw[if_neg hw];exact hI _ _ h
theorem zEc{id:Nat}{a:Act}{w:World}(S:World→Prop)(n:Nat)(hm:P.follows .mixedOrders=true)(hc:seqTOk ops n=true)(hS:S w.drew)(h:SeqT P ops S (fun a=>∀w,S w→wpList P ops Q (ops.toList.drop n) a w) (ops.toList.take n) a):(Code.region id ops true).wp P Q a w:=by
 simp only[seqTOk,Bool.and_eq_true,List.all_eq_true,List.mem_range,List.isEmpty_iff,beq_iff_eq]at hc;obtain⟨⟨⟨⟨h1,h2⟩,h3⟩,h4⟩,h5⟩:=hc;have h5:n≤ops.size:=Nat.le_of_ble_eq_true h5;have hK:∀a,(∀w,S w→wpList P ops Q (ops.toList.drop n) a w)→∀w,S w→wpAny P .any ops Q (ops.size - n) (lst ops.size n) a w:=fun a h w hS=>tail_any _ n a w (by omega) (fun j hj hjl=>by have:=h3 (j - n) (by omega);rwa [show n+(j - n)=j by omega]at this) h4 (h w hS)
 have hT:∀(m k:Nat) (a:Act),k+m=n→SeqT P ops S (fun a=>∀w,S w→wpList P ops Q (ops.toList.drop n) a w) ((ops.toList.take n).drop k) a→FixT P ops S (lst ops.size n) (fun a=>∀w,S w→wpAny P .any ops Q (ops.size - n) (lst ops.size n) a w) m (lst ops.size k) a:=by
  intro m;induction m with
  |zero=>
   intro k a hk hs;obtain rfl:k=n:=by omega
   rw[show(ops.toList.take k).drop k=[]from List.drop_of_length_le (by rw[List.length_take];exact Nat.min_le_left _ _)]at hs;exact⟨rfl,hK a hs⟩
  |succ m ih=>
   intro k a hk hs;have hlt:k<ops.size:=by omega
   have hl2:k<(ops.toList.take n).length:=by simp;omega
   have hd:(ops.toList.take n).drop k=ops[k] :: (ops.toList.take n).drop (k+1):=by
    rw[←List.getElem_cons_drop hl2,List.getElem_take];rfl
   rw[hd]at hs;obtain⟨v,hg,hr⟩:=hs;have ho:ops[k]? = some ops[k]:=Array.getElem?_eq_getElem hlt;obtain⟨⟨⟨f1,f2⟩,f3⟩,f4⟩:=h2 k (by omega);refine FixT.first ho (Region.noSelect_spec h1) (fun j hj=>?_) m _ _ (downB_spec f3) (Region.free_spec ho f1) (by simpa using f2) hg (ih (k+1) _ (by omega) hr);have q:=f4 j hj;rw[Bool.or_eq_true]at q;rcases q with q|q
   ·obtain⟨c,-,hc⟩:=List.any_eq_true.1 q
    simp only[Bool.and_eq_true,bne_iff_ne]at hc;obtain⟨oc,e,hoc,he,hb,heq⟩:=zGn hc.2;exact .inl ⟨c,oc,e,hc.1.1,hoc,hc.1.2,he,hb,heq⟩
   ·exact .inr (zGn q)
 have:=FixT.wpAny (Q:=Q) (m:=ops.size - n) n _ a w.drew (hT n 0 a (by omega) h) hS;rw[show n+(ops.size - n)=ops.size by omega]at this;exact wp_region_any hm this
theorem zCc{K:Act→Prop}{o:Oper}{r:List Oper}{a:Act}{v:Value}(hw:Region.wanted o (yielded ops a.tmps)=true)(hv:∀w,S w→(execOp a.eval o).run P w=.ok (.value v) w)(h:SeqT P ops S K r (a.put o.dst v)):SeqT P ops S K (o :: r) a :=
 ⟨v,.inl ⟨hw,fun w hS=>by rw[hv w hS];exact⟨rfl,hS⟩⟩,h⟩
theorem zAq{K:Act→Prop}{o:Oper}{r:List Oper}{a:Act}{v:Value}{f:FuncId}{args:Array Value}(hw:Region.wanted o (yielded ops a.tmps)=true)(hv:∀w,S w→(execOp a.eval o).run P w=.ok (.enter f args) w)(hc:∀w,S w→Calls P f args w fun e w' => e=.returned v∧S w')(h:SeqT P ops S K r (a.put o.dst v)):SeqT P ops S K (o :: r) a :=
 ⟨v,.inl ⟨hw,fun w hS=>by rw[hv w hS];exact hc w hS⟩,h⟩
theorem Gives.of_yields{o:Oper}{v:Value}{a:Act}(h:YieldsIf P ops S o v a):Gives P ops S o v a:=h.imp (fun⟨hw,hv⟩=>⟨hw,fun w hS=>by rw[hv w hS];exact⟨rfl,hS⟩⟩) id
theorem seqT_yields{K:Act→Prop}{o:Oper}{r:List Oper}{a:Act}{v:Value}(hy:YieldsIf P ops S o v a)(h:SeqT P ops S K r (a.put o.dst v)):SeqT P ops S K (o :: r) a:=⟨v,.of_yields hy,h⟩
theorem zGd{o:Oper}{r:List Oper}{a:Act}{v:Value}(hy:YieldsIf P ops S o v a)(h:Seq P ops Q S r (a.put o.dst v)):Seq P ops Q S (o :: r) a:=⟨v,.of_yields hy,h⟩
theorem zCn{K:Act→Prop}{a:Act}(h:K a):SeqT P ops S K [] a:=h
end
end Go.Proofs.YthcnojmldldpeaaGreatDoor
