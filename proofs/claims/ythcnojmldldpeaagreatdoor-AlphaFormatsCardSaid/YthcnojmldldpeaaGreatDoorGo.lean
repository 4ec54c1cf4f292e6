/- The walks of the methods of alpha's words: done, next, option, must, choice, name, number, sequence. No condition. -/
import Derived.Test.YthcnojmldldpeaaGreatDoorGn
import Derived.Great.Walk
namespace Go.Proofs.YthcnojmldldpeaaGreatDoor
open Lib (hid)
open Go.RowKit
theorem zAj{P:Program}{ops:Array Oper}{rest:List Oper}{o:Oper}{a:Act}{w:World}{Q:Exit→Act→World→Prop}(hw:Region.wanted o (yielded ops a.tmps)=true)
  (h:wpList P ops Q ({ o with guard:=none } :: rest) a w):wpList P ops Q (o :: rest) a w:=by
 unfold wpList at h⊢;rw[if_pos hw];rw[if_pos (show Region.wanted { o with guard:=none } (yielded ops a.tmps)=true from rfl)]at h;exact h
def HasC(T:TypeId)(g:Nat)(cs:Array Value)(w:World):Prop:=w.heap[g]? = some (.cells cs T (0,0))
theorem HasC.cell{T:TypeId}{g:Nat}{cs:Array Value}{w:World}(h:HasC T g cs w)(j:Nat):w.cell? ⟨g,j,none⟩=cs[j]?:=Lib.cell_of_heap h j
theorem HasC.frz{T:TypeId}{g:Nat}{cs:Array Value}{w:World}(h:HasC T g cs w)(j:Nat):w.frozen? ⟨g,j,none⟩=false:=Lib.frozen_of_heap h j
theorem HasC.below{T:TypeId}{g B:Nat}{cs:Array Value}{w w' : World}(h:HasC T g cs w)(hb:Below B w w')(hg:g<B):HasC T g cs w' := (hb.block g hg).trans h
theorem HasC.keep{T:TypeId}{g:Nat}{cs:Array Value}{w w' : World}(h:HasC T g cs w)(hb:Below w.heap.size w w'):HasC T g cs w' := h.below hb (zCv h)
theorem HasC.grown{T:TypeId}{g:Nat}{cs:Array Value}{w w' : World}(h:HasC T g cs w){row:Option Nat}(hg:w.grownBy w' row)(hr:some g≠row):HasC T g cs w' := (hg.block g (zCv h) hr).trans h
theorem HasC.new(w:World)(T:TypeId)(cs:Array Value):HasC T w.heap.size cs (w.alloc (.cells cs T)):=heap_alloc_new w _
theorem HasC.range{T:TypeId}{g:Nat}{cs:Array Value}{w:World}(h:HasC T g cs w):w.rangeAt g 0 cs.toList:=fun j v hv=>by
 rw[Nat.zero_add,h.cell j];simpa using hv
section
variable {w : World} {T : TypeId} {g o : Nat} {a b c d e f i j k l m n p : Value} {t : List Value}
theorem rw2(h:w.rangeAt g o (a :: b :: t)):w.cell? ⟨g,o,none⟩=some a∧w.cell? ⟨g,o+1,none⟩=some b:=⟨h 0 _ rfl,h 1 _ rfl⟩
theorem cl0(h:HasC T g ⟨a :: t⟩ w):w.cell? ⟨g,0,none⟩=some a:=by simpa using h.range 0 a rfl
theorem cl1(h:HasC T g ⟨a :: b :: t⟩ w):w.cell? ⟨g,1,none⟩=some b:=by simpa using h.range 1 b rfl
theorem cl2(h:HasC T g ⟨a :: b :: c :: t⟩ w):w.cell? ⟨g,2,none⟩=some c:=by simpa using h.range 2 c rfl
theorem cl3(h:HasC T g ⟨a :: b :: c :: d :: t⟩ w):w.cell? ⟨g,3,none⟩=some d:=by simpa using h.range 3 d rfl
theorem cl4(h:HasC T g ⟨a :: b :: c :: d :: e :: t⟩ w):w.cell? ⟨g,4,none⟩=some e:=by simpa using h.range 4 e rfl
theorem cl5(h:HasC T g ⟨a :: b :: c :: d :: e :: f :: t⟩ w):w.cell? ⟨g,5,none⟩=some f:=by simpa using h.range 5 f rfl
theorem cl6(h:HasC T g ⟨a :: b :: c :: d :: e :: f :: i :: t⟩ w):w.cell? ⟨g,6,none⟩=some i:=by simpa using h.range 6 i rfl
theorem cl7(h:HasC T g ⟨a :: b :: c :: d :: e :: f :: i :: j :: t⟩ w):w.cell? ⟨g,7,none⟩=some j:=by simpa using h.range 7 j rfl
theorem cl8(h:HasC T g ⟨a :: b :: c :: d :: e :: f :: i :: j :: k :: t⟩ w):w.cell? ⟨g,8,none⟩=some k:=by simpa using h.range 8 k rfl
theorem cl9(h:HasC T g ⟨a :: b :: c :: d :: e :: f :: i :: j :: k :: l :: t⟩ w):w.cell? ⟨g,9,none⟩=some l:=by simpa using h.range 9 l rfl
theorem bl2(h:HasC T g ⟨a :: b :: t⟩ w):w.cell? ⟨g,0,none⟩=some a∧w.cell? ⟨g,1,none⟩=some b:=⟨cl0 h,cl1 h⟩
theorem bl3(h:HasC T g ⟨a :: b :: c :: t⟩ w):w.cell? ⟨g,0,none⟩=some a∧w.cell? ⟨g,1,none⟩=some b∧w.cell? ⟨g,2,none⟩=some c:=⟨cl0 h,cl1 h,cl2 h⟩
theorem bl4(h:HasC T g ⟨a :: b :: c :: d :: t⟩ w):w.cell? ⟨g,0,none⟩=some a∧w.cell? ⟨g,1,none⟩=some b∧w.cell? ⟨g,2,none⟩=some c∧w.cell? ⟨g,3,none⟩=some d:=⟨cl0 h,cl1 h,cl2 h,cl3 h⟩
theorem bl5(h:HasC T g ⟨a :: b :: c :: d :: e :: t⟩ w):w.cell? ⟨g,0,none⟩=some a∧w.cell? ⟨g,1,none⟩=some b∧w.cell? ⟨g,2,none⟩=some c∧w.cell? ⟨g,3,none⟩=some d∧w.cell? ⟨g,4,none⟩=some e:=⟨cl0 h,cl1 h,cl2 h,cl3 h,cl4 h⟩
theorem bl6(h:HasC T g ⟨a :: b :: c :: d :: e :: f :: t⟩ w):w.cell? ⟨g,0,none⟩=some a∧w.cell? ⟨g,1,none⟩=some b∧w.cell? ⟨g,2,none⟩=some c∧w.cell? ⟨g,3,none⟩=some d∧w.cell? ⟨g,4,none⟩=some e∧w.cell? ⟨g,5,none⟩=some f:=⟨cl0 h,cl1 h,cl2 h,cl3 h,cl4 h,cl5 h⟩
theorem bl7(h:HasC T g ⟨a :: b :: c :: d :: e :: f :: i :: t⟩ w):w.cell? ⟨g,0,none⟩=some a∧w.cell? ⟨g,1,none⟩=some b∧w.cell? ⟨g,2,none⟩=some c∧w.cell? ⟨g,3,none⟩=some d∧w.cell? ⟨g,4,none⟩=some e∧w.cell? ⟨g,5,none⟩=some f∧w.cell? ⟨g,6,none⟩=some i:=⟨cl0 h,cl1 h,cl2 h,cl3 h,cl4 h,cl5 h,cl6 h⟩
theorem bl8(h:HasC T g ⟨a :: b :: c :: d :: e :: f :: i :: j :: t⟩ w):w.cell? ⟨g,0,none⟩=some a∧w.cell? ⟨g,1,none⟩=some b∧w.cell? ⟨g,2,none⟩=some c∧w.cell? ⟨g,3,none⟩=some d∧w.cell? ⟨g,4,none⟩=some e∧w.cell? ⟨g,5,none⟩=some f∧w.cell? ⟨g,6,none⟩=some i∧w.cell? ⟨g,7,none⟩=some j:=⟨cl0 h,cl1 h,cl2 h,cl3 h,cl4 h,cl5 h,cl6 h,cl7 h⟩
theorem bl9(h:HasC T g ⟨a :: b :: c :: d :: e :: f :: i :: j :: k :: t⟩ w):w.cell? ⟨g,0,none⟩=some a∧w.cell? ⟨g,1,none⟩=some b∧w.cell? ⟨g,2,none⟩=some c∧w.cell? ⟨g,3,none⟩=some d∧w.cell? ⟨g,4,none⟩=some e∧w.cell? ⟨g,5,none⟩=some f∧w.cell? ⟨g,6,none⟩=some i∧w.cell? ⟨g,7,none⟩=some j∧w.cell? ⟨g,8,none⟩=some k:=⟨cl0 h,cl1 h,cl2 h,cl3 h,cl4 h,cl5 h,cl6 h,cl7 h,cl8 h⟩
theorem bl10(h:HasC T g ⟨a :: b :: c :: d :: e :: f :: i :: j :: k :: l :: t⟩ w):w.cell? ⟨g,0,none⟩=some a∧w.cell? ⟨g,1,none⟩=some b∧w.cell? ⟨g,2,none⟩=some c∧w.cell? ⟨g,3,none⟩=some d∧w.cell? ⟨g,4,none⟩=some e∧w.cell? ⟨g,5,none⟩=some f∧w.cell? ⟨g,6,none⟩=some i∧w.cell? ⟨g,7,none⟩=some j∧w.cell? ⟨g,8,none⟩=some k∧w.cell? ⟨g,9,none⟩=some l:=⟨cl0 h,cl1 h,cl2 h,cl3 h,cl4 h,cl5 h,cl6 h,cl7 h,cl8 h,cl9 h⟩
end
theorem HasC.there{T:TypeId}{g:Nat}{cs:Array Value}{w:World}(h:HasC T g cs w):w.there g 0 cs.size:=by
 intro j hj;rw[Nat.zero_add];refine⟨?_,h.frz j⟩;rw[h.cell j,Array.getElem?_eq_getElem hj];rfl
theorem zDk:∀(vs:List Value) (o:Nat) (cs:Array Value) (k:Nat),(zEh cs o vs)[k]? = if o≤k∧k<o+vs.length∧k<cs.size then vs[k - o]? else cs[k]?
 |[],o,cs,k=>by
  rw[if_neg (by simp;omega)];rfl
 |v :: r,o,cs,k=>by
  unfold zEh;rw[zDk r (o+1) _ k,Array.size_setIfInBounds];by_cases h1:o=k
  ·subst h1
   rw[if_neg (by omega)];by_cases h2:o<cs.size
   ·rw[if_pos ⟨Nat.le_refl _,by simp,h2⟩,Array.getElem?_setIfInBounds_self_of_lt h2]
    simp
   ·rw[if_neg (by omega),Array.getElem?_eq_none (by simp;omega),Array.getElem?_eq_none (by omega)]
  ·rw[Array.getElem?_setIfInBounds_ne h1]
   by_cases h2:o+1≤k∧k<o+1+r.length∧k<cs.size
   ·rw[if_pos h2,if_pos (by simp only[List.length_cons];omega),show k - o=(k - (o+1))+1 from by omega]
    rfl
   ·rw[if_neg h2,if_neg (by simp only[List.length_cons];omega)]
theorem setAll_full{cs ds:Array Value}(h:cs.size=ds.size):zEh cs 0 ds.toList=ds:=by
 apply Array.ext_getElem?;intro k;rw[zDk];by_cases hk:k<ds.size
 ·rw[if_pos (by simp;omega)]
  simp
 ·rw[if_neg (by simp;omega),Array.getElem?_eq_none (by omega),Array.getElem?_eq_none (by omega)]
theorem HasC.stored{T:TypeId}{g:Nat}{cs:Array Value}{w:World}(h:HasC T g cs w){ds:Array Value}(hs:cs.size=ds.size):HasC T g ds (w.setCells g 0 ds.toList):=by
 unfold HasC at h⊢;rw[zEo _ 0 _ _ h,setAll_full hs]
section
variable {P : Program} {ops : Array Oper} {rest : List Oper} {o : Oper} {a : Act} {w : World} {Q : Exit → Act → World → Prop}
theorem zAa(hgd:o.guard=none)(T:TypeId)(x:Operand)(ho:o.op=.load T x)
  {g f:Nat} {cs:Array Value} (hx:a.eval x=.pointer (some ⟨g,f,none⟩)) (hq:w.rangeAt g f cs.toList) (hr:(P.underlying T).map TypeDesc.isRow=some true) (hs:(P.info? T).map (·.size)=some cs.size)
  (h:wpList P ops Q rest (a.put o.dst (.agg cs)) w):wpList P ops Q (o :: rest) a w:=by
 obtain⟨d,hu,hd⟩:=row_of hr;refine wpList_load_mid hgd T x ho g f hx cs.toList d hq hu hd (by simpa using hs) ?_;simpa using h
theorem zAd(hgd:o.guard=none)(T:TypeId)(x y:Operand)(ho:o.op=.store T x y)
  {g:Nat} {U:TypeId} {cs ds:Array Value} (hx:a.eval x=.pointer (some ⟨g,0,none⟩)) (hy:a.eval y=.agg ds) (hq:HasC U g cs w) (hc:cs.size=ds.size) (hs:(P.info? T).map (·.size)=some ds.size) (h1:ds.all (·.oneCell')=true)
  (h:∀w', HasC U g ds w' → w.grownBy w' (some g)→wpList P ops Q rest (a.put o.dst undef) w'):wpList P ops Q (o :: rest) a w :=
 wpList_store_mid hgd T x y ho g 0 ds hx hy (hc ▸ hq.there) hs h1 (h _ (hq.stored hc) (zFy _ _ _ _))
theorem zGc{S:World→Prop}(hw:Region.wanted o (yielded ops a.tmps)=true)(T:TypeId)(x:Operand)(ho:o.op=.load T x){g f:Nat}{cs:Array Value}
  (hx:a.eval x=.pointer (some ⟨g,f,none⟩)) (hS:∀w,S w→w.rangeAt g f cs.toList) (hr:(P.underlying T).map TypeDesc.isRow=some true) (hs:(P.info? T).map (·.size)=some cs.size):YieldsIf P ops S o (.agg cs) a:=by
 obtain⟨d,hu,hd⟩:=row_of hr;have:=yieldsIf_load_mid (P:=P) (ops:=ops) (S:=S) hw T x ho g f hx cs.toList d hS hu hd (by simpa using hs);simpa using this
end
theorem zAi{w w' : World}{o:Obj}(hg:(w.alloc o).grownBy w' (some w.heap.size)):Below w.heap.size w w' :=
 ((Below.refl w.heap.size w).alloc (Nat.le_refl _) o).trans (zBj hg (Nat.le_refl _) (by simp))
theorem zAf{w w' : World}{B g o:Nat}{xs:List Value}(h:w.rangeAt g o xs)(hb:Below B w w')(hg:g<B):w'.rangeAt g o xs:=fun j v hv=>(hb.cell (p:=⟨g,o+j,none⟩) hg).trans (h j v hv)
def SlV{α:Type}(w:World)(B n:Nat)(cells:α→Array Value)(v:Value)(xs:List α):Prop :=
 ∃A c,v=.slice A xs.length c∧xs.length≤c∧Slc w B n (.slice A xs.length c) xs.length (xs.flatMap fun x=>(cells x).toList)
theorem SlV.below{α:Type}{w w' : World}{B n:Nat}{cells:α→Array Value}{v:Value}{xs:List α}(h:SlV w B n cells v xs)(hb:Below B w w'):SlV w' B n cells v xs:=by
 obtain⟨A,c,rfl,h1,h2⟩:=h;exact⟨A,c,rfl,h1,h2.below hb⟩
theorem SlV.len{α:Type}{w:World}{B n:Nat}{cells:α→Array Value}{v:Value}{xs:List α}(h:SlV w B n cells v xs):xs.length≤maxLen:=by
 obtain⟨A,c,rfl,h1,A', c', e,h2,_⟩:=h;exact h2
structure Orow where
 e:TypeId
 size:Nat
 v:Value
 n:Nat
 xs:List Value
def Orow.own(r:Orow)(w:World)(B:Nat):Prop:=w.ownsRow B r.e r.size r.v r.n r.xs
def OwnAll(w:World)(B:Nat)(rs:List Orow):Prop:=(∀r∈rs,r.own w B)∧(rs.filterMap (·.v.ownBlock)).Nodup
theorem Orow.own.lt{r:Orow}{w:World}{B g:Nat}(h:r.own w B)(hg:r.v.ownBlock=some g):g<w.heap.size∧B≤g:=by
 obtain⟨hl,h⟩:=h;rcases h with⟨h1,h2⟩|⟨g', cap,cur,h1,h2,h3,-⟩
 ·rw[h1]at hg;cases hg
 ·rw[h1]at hg
  simp only[Value.ownBlock,Option.some.injEq]at hg;subst hg;exact⟨zCv h3,h2⟩
theorem Orow.own.frame{r:Orow}{w w' : World}{B:Nat}(h:r.own w B){row:Option Nat}(hg:w.grownBy w' row)(hn:∀g,r.v.ownBlock=some g→row≠some g):r.own w' B:=by
 have hlt:=fun g hg=>(Orow.own.lt h (g:=g) hg).1
 obtain⟨hl,h⟩:=h;refine⟨hl,?_⟩;rcases h with h|⟨g', cap,cur,h1,h2,h3,h4⟩
 ·exact .inl h
 ·have hb:r.v.ownBlock=some g' := by rw[h1];rfl
  exact .inr ⟨g', cap,cur,h1,h2,(hg.block g' (hlt _ hb) (fun e=>hn g' hb e.symm)).trans h3,h4⟩
theorem Orow.own.below{r:Orow}{w w' : World}{B:Nat}(h:r.own w B)(hb:Below w.heap.size w w'):r.own w' B:=h.frame (zFm (Nat.le_refl _) hb none) (fun g _ e=>by cases e)
theorem OwnAll.frame{w w' : World}{B:Nat}{rs:List Orow}(h:OwnAll w B rs){row:Option Nat}(hg:w.grownBy w' row)(hn:∀g,row=some g→g∉rs.filterMap (·.v.ownBlock)):OwnAll w' B rs :=
 ⟨fun r hr=>(h.1 r hr).frame hg (fun g hg' e=>hn g e (List.mem_filterMap.2 ⟨r,hr,hg'⟩)),h.2⟩
theorem OwnAll.below{w w' : World}{B:Nat}{rs:List Orow}(h:OwnAll w B rs)(hb:Below w.heap.size w w'):OwnAll w' B rs:=⟨fun r hr=>(h.1 r hr).below hb,h.2⟩
theorem OwnAll.lt{w:World}{B g:Nat}{rs:List Orow}(h:OwnAll w B rs)(hg:g∈rs.filterMap (·.v.ownBlock)):g<w.heap.size∧B≤g:=by
 obtain⟨r,hr,e⟩:=List.mem_filterMap.1 hg;exact Orow.own.lt (h.1 r hr) e
theorem nodup_mid{α:Type}{l1 l2:List α}{a:α}:(l1++a :: l2).Nodup↔(a :: (l1++l2)).Nodup:=List.perm_middle.nodup_iff
theorem blocks_mid(pre post:List Orow)(r:Orow):(pre++r :: post).filterMap (·.v.ownBlock)=pre.filterMap (·.v.ownBlock)++(r.v.ownBlock.toList++post.filterMap (·.v.ownBlock)):=by
 rw[List.filterMap_append,List.filterMap_cons];cases r.v.ownBlock<;>rfl
theorem OwnAll.upd{w w' : World}{B:Nat}{pre post:List Orow}{r r' : Orow}(h:OwnAll w B (pre++r :: post))(hg:w.grownBy w' r.v.ownBlock)(ho:r'.own w' B)
  (hb:r'.v.ownBlock=r.v.ownBlock∨r'.v.ownBlock=none∨∃k,r'.v.ownBlock=some k∧w.heap.size≤k):OwnAll w' B (pre++r' :: post):=by
 obtain⟨h1,h2⟩:=h
 have hall:∀x∈pre++post,x.own w' B:=by
  intro x hx
  have hx' : x∈pre++r :: post:=by
   rcases List.mem_append.1 hx with hx|hx
   ·exact List.mem_append_left _ hx
   ·exact List.mem_append_right _ (List.mem_cons_of_mem _ hx)
  refine(h1 x hx').frame hg (fun g hgx e=>?_);rw[blocks_mid,e]at h2;have h3:(pre.filterMap (·.v.ownBlock)++(g :: post.filterMap (·.v.ownBlock))).Nodup:=h2;have h4:=(nodup_mid.1 h3);rw[List.nodup_cons]at h4;refine h4.1 ?_;rw[←List.filterMap_append];exact List.mem_filterMap.2 ⟨x,hx,hgx⟩
 refine⟨fun x hx=>?_,?_⟩
 ·rcases List.mem_append.1 hx with hx|hx
  ·exact hall x (List.mem_append_left _ hx)
  ·rcases List.mem_cons.1 hx with rfl|hx
   ·exact ho
   ·exact hall x (List.mem_append_right _ hx)
 ·rw[blocks_mid]at h2⊢
  rcases hb with hb|hb|⟨k,hb,hk⟩
  ·rw[hb];exact h2
  ·rw[hb]
   have h3:(pre.filterMap (·.v.ownBlock)++post.filterMap (·.v.ownBlock)).Sublist (pre.filterMap (·.v.ownBlock)++(r.v.ownBlock.toList++post.filterMap (·.v.ownBlock))):=List.Sublist.append (List.Sublist.refl _) (List.sublist_append_right _ _);exact h2.sublist h3
  ·rw[hb]
   have h3:(pre.filterMap (·.v.ownBlock)++post.filterMap (·.v.ownBlock)).Sublist (pre.filterMap (·.v.ownBlock)++(r.v.ownBlock.toList++post.filterMap (·.v.ownBlock))):=List.Sublist.append (List.Sublist.refl _) (List.sublist_append_right _ _);refine nodup_mid.2 (List.nodup_cons.2 ⟨fun hm=>?_,h2.sublist h3⟩);replace hm:k∈pre.filterMap (·.v.ownBlock)++post.filterMap (·.v.ownBlock):=hm;rw[←List.filterMap_append]at hm;obtain⟨x,hx,e⟩:=List.mem_filterMap.1 hm
   have hx' : x∈pre++r :: post:=by
    rcases List.mem_append.1 hx with hx|hx
    ·exact List.mem_append_left _ hx
    ·exact List.mem_append_right _ (List.mem_cons_of_mem _ hx)
   have:=(Orow.own.lt (h1 x hx') e).1;omega
structure If where
 name:List UInt8
 addr:Nat
 len:Int
 vlan:Int
 down:Bool
 ls:Bool
 area:Int
 cost:Int
 dv:Bool
 inn:List UInt8
 out:List UInt8
 side:Int
deriving Inhabited
def If.C(x:If):Array Value:=#[strV x.name,.int .u32 (x.addr:Int),.int .i64 x.len,.int .i64 x.vlan,.bool x.down,.bool x.ls,.int .i64 x.area,.int .i64 x.cost,.bool x.dv,strV x.inn,strV x.out,.int .i64 x.side]
def If.fit(x:If):Prop:=x.addr<4294967296
theorem Tryz.rowIf:(Tryz.prog.underlying 68).map TypeDesc.isRow=some true:=by kernel_rfl
theorem Tryz.sizeIf:(Tryz.prog.info? 68).map (·.size)=some 12:=by kernel_rfl
theorem If.one(x:If):x.C.all (·.oneCell')=true:=by
 rw[Array.all_eq_true_iff_forall_mem];intro v hv;simp only[If.C,List.mem_toArray,List.mem_cons,List.not_mem_nil,or_false]at hv;rcases hv with rfl|rfl|rfl|rfl|rfl|rfl|rfl|rfl|rfl|rfl|rfl|rfl<;>first|rfl
structure PRule where
 permit:Bool
 pa:Nat
 pl:Int
 min:Int
 max:Int
deriving Inhabited
def PRule.C(x:PRule):Array Value:=#[.bool x.permit,.int .u32 (x.pa:Int),.int .i64 x.pl,.int .i64 x.min,.int .i64 x.max]
def PRule.fit(x:PRule):Prop:=x.pa<4294967296
theorem Tryz.rowPRule:(Tryz.prog.underlying 92).map TypeDesc.isRow=some true:=by kernel_rfl
theorem Tryz.sizePRule:(Tryz.prog.info? 92).map (·.size)=some 5:=by kernel_rfl
theorem PRule.one(x:PRule):x.C.all (·.oneCell')=true:=by
 rw[Array.all_eq_true_iff_forall_mem];intro v hv;simp only[PRule.C,List.mem_toArray,List.mem_cons,List.not_mem_nil,or_false]at hv;rcases hv with rfl|rfl|rfl|rfl|rfl<;>first|rfl
structure PList where
 name:List UInt8
 v:Value
 rules:List PRule
deriving Inhabited
def PList.C(x:PList):Array Value:=#[strV x.name,x.v]
def PList.fit(x:PList):Prop:=∀y∈x.rules,y.fit
theorem Tryz.rowPList:(Tryz.prog.underlying 49).map TypeDesc.isRow=some true:=by kernel_rfl
theorem Tryz.sizePList:(Tryz.prog.info? 49).map (·.size)=some 2:=by kernel_rfl
theorem PList.one(x:PList)(h0:x.v.oneCell' = true):x.C.all (·.oneCell')=true:=by
 rw[Array.all_eq_true_iff_forall_mem];intro v hv;simp only[PList.C,List.mem_toArray,List.mem_cons,List.not_mem_nil,or_false]at hv;rcases hv with rfl|rfl<;>first|rfl|exact h0
def PList.at(w:World)(B:Nat)(x:PList):Prop:=SlV w B 5 PRule.C x.v x.rules
structure Cl where
 permit:Bool
 list:List UInt8
 tag:Int
 setM:Int
 setT:Int
 setP:Int
 prep:Int
deriving Inhabited
def Cl.C(x:Cl):Array Value:=#[.bool x.permit,strV x.list,.int .i64 x.tag,.int .i64 x.setM,.int .i64 x.setT,.int .i64 x.setP,.int .i64 x.prep]
def Cl.fit(_:Cl):Prop:=True
theorem Tryz.rowCl:(Tryz.prog.underlying 95).map TypeDesc.isRow=some true:=by kernel_rfl
theorem Tryz.sizeCl:(Tryz.prog.info? 95).map (·.size)=some 7:=by kernel_rfl
theorem Cl.one(x:Cl):x.C.all (·.oneCell')=true:=by
 rw[Array.all_eq_true_iff_forall_mem];intro v hv;simp only[Cl.C,List.mem_toArray,List.mem_cons,List.not_mem_nil,or_false]at hv;rcases hv with rfl|rfl|rfl|rfl|rfl|rfl|rfl<;>first|rfl
structure RMap where
 name:List UInt8
 v:Value
 clauses:List Cl
deriving Inhabited
def RMap.C(x:RMap):Array Value:=#[strV x.name,x.v]
def RMap.fit(_:RMap):Prop:=True
theorem Tryz.rowRMap:(Tryz.prog.underlying 52).map TypeDesc.isRow=some true:=by kernel_rfl
theorem Tryz.sizeRMap:(Tryz.prog.info? 52).map (·.size)=some 2:=by kernel_rfl
theorem RMap.one(x:RMap)(h0:x.v.oneCell' = true):x.C.all (·.oneCell')=true:=by
 rw[Array.all_eq_true_iff_forall_mem];intro v hv;simp only[RMap.C,List.mem_toArray,List.mem_cons,List.not_mem_nil,or_false]at hv;rcases hv with rfl|rfl<;>first|rfl|exact h0
def RMap.at(w:World)(B:Nat)(x:RMap):Prop:=SlV w B 7 Cl.C x.v x.clauses
structure Ru where
 permit:Bool
 proto:Int
 sa:Nat
 sm:Nat
 da:Nat
 dm:Nat
 slo:Int
 shi:Int
 dlo:Int
 dhi:Int
deriving Inhabited
def Ru.C(x:Ru):Array Value:=#[.bool x.permit,.int .i64 x.proto,.int .u32 (x.sa:Int),.int .u32 (x.sm:Int),.int .u32 (x.da:Int),.int .u32 (x.dm:Int),.int .i64 x.slo,.int .i64 x.shi,.int .i64 x.dlo,.int .i64 x.dhi]
def Ru.fit(x:Ru):Prop:=x.sa<4294967296∧x.sm<4294967296∧x.da<4294967296∧x.dm<4294967296
theorem Tryz.rowRu:(Tryz.prog.underlying 103).map TypeDesc.isRow=some true:=by kernel_rfl
theorem Tryz.sizeRu:(Tryz.prog.info? 103).map (·.size)=some 10:=by kernel_rfl
theorem Ru.one(x:Ru):x.C.all (·.oneCell')=true:=by
 rw[Array.all_eq_true_iff_forall_mem];intro v hv;simp only[Ru.C,List.mem_toArray,List.mem_cons,List.not_mem_nil,or_false]at hv;rcases hv with rfl|rfl|rfl|rfl|rfl|rfl|rfl|rfl|rfl|rfl<;>first|rfl
structure AList where
 name:List UInt8
 v:Value
 rules:List Ru
deriving Inhabited
def AList.C(x:AList):Array Value:=#[strV x.name,x.v]
def AList.fit(x:AList):Prop:=∀y∈x.rules,y.fit
theorem Tryz.rowAList:(Tryz.prog.underlying 55).map TypeDesc.isRow=some true:=by kernel_rfl
theorem Tryz.sizeAList:(Tryz.prog.info? 55).map (·.size)=some 2:=by kernel_rfl
theorem AList.one(x:AList)(h0:x.v.oneCell' = true):x.C.all (·.oneCell')=true:=by
 rw[Array.all_eq_true_iff_forall_mem];intro v hv;simp only[AList.C,List.mem_toArray,List.mem_cons,List.not_mem_nil,or_false]at hv;rcases hv with rfl|rfl<;>first|rfl|exact h0
def AList.at(w:World)(B:Nat)(x:AList):Prop:=SlV w B 10 Ru.C x.v x.rules
structure Tr where
 kind:Int
 ins:Nat
 outs:Nat
 proto:Int
 iport:Int
 oport:Int
 list:List UInt8
 lo:Nat
 hi:Nat
deriving Inhabited
def Tr.C(x:Tr):Array Value:=#[.int .i64 x.kind,.int .u32 (x.ins:Int),.int .u32 (x.outs:Int),.int .i64 x.proto,.int .i64 x.iport,.int .i64 x.oport,strV x.list,.int .u32 (x.lo:Int),.int .u32 (x.hi:Int)]
def Tr.fit(x:Tr):Prop:=x.ins<4294967296∧x.outs<4294967296∧x.lo<4294967296∧x.hi<4294967296
theorem Tryz.rowTr:(Tryz.prog.underlying 106).map TypeDesc.isRow=some true:=by kernel_rfl
theorem Tryz.sizeTr:(Tryz.prog.info? 106).map (·.size)=some 9:=by kernel_rfl
theorem Tr.one(x:Tr):x.C.all (·.oneCell')=true:=by
 rw[Array.all_eq_true_iff_forall_mem];intro v hv;simp only[Tr.C,List.mem_toArray,List.mem_cons,List.not_mem_nil,or_false]at hv;rcases hv with rfl|rfl|rfl|rfl|rfl|rfl|rfl|rfl|rfl<;>first|rfl
structure Sr where
 pa:Nat
 pl:Int
 next:Nat
 iface:List UInt8
 discard:Bool
 admin:Int
 tag:Int
deriving Inhabited
def Sr.C(x:Sr):Array Value:=#[.int .u32 (x.pa:Int),.int .i64 x.pl,.int .u32 (x.next:Int),strV x.iface,.bool x.discard,.int .i64 x.admin,.int .i64 x.tag]
def Sr.fit(x:Sr):Prop:=x.pa<4294967296∧x.next<4294967296
theorem Tryz.rowSr:(Tryz.prog.underlying 109).map TypeDesc.isRow=some true:=by kernel_rfl
theorem Tryz.sizeSr:(Tryz.prog.info? 109).map (·.size)=some 7:=by kernel_rfl
theorem Sr.one(x:Sr):x.C.all (·.oneCell')=true:=by
 rw[Array.all_eq_true_iff_forall_mem];intro v hv;simp only[Sr.C,List.mem_toArray,List.mem_cons,List.not_mem_nil,or_false]at hv;rcases hv with rfl|rfl|rfl|rfl|rfl|rfl|rfl<;>first|rfl
structure Rd where
 frm:Int
 metric:Int
 tag:Int
 map:List UInt8
 typ:Int
deriving Inhabited
def Rd.C(x:Rd):Array Value:=#[.int .i64 x.frm,.int .i64 x.metric,.int .i64 x.tag,strV x.map,.int .i64 x.typ]
def Rd.fit(_:Rd):Prop:=True
theorem Tryz.rowRd:(Tryz.prog.underlying 149).map TypeDesc.isRow=some true:=by kernel_rfl
theorem Tryz.sizeRd:(Tryz.prog.info? 149).map (·.size)=some 5:=by kernel_rfl
theorem Rd.one(x:Rd):x.C.all (·.oneCell')=true:=by
 rw[Array.all_eq_true_iff_forall_mem];intro v hv;simp only[Rd.C,List.mem_toArray,List.mem_cons,List.not_mem_nil,or_false]at hv;rcases hv with rfl|rfl|rfl|rfl|rfl<;>first|rfl
structure AR where
 area:Int
 pa:Nat
 pl:Int
deriving Inhabited
def AR.C(x:AR):Array Value:=#[.int .i64 x.area,.int .u32 (x.pa:Int),.int .i64 x.pl]
def AR.fit(x:AR):Prop:=x.pa<4294967296
theorem Tryz.rowAR:(Tryz.prog.underlying 112).map TypeDesc.isRow=some true:=by kernel_rfl
theorem Tryz.sizeAR:(Tryz.prog.info? 112).map (·.size)=some 3:=by kernel_rfl
theorem AR.one(x:AR):x.C.all (·.oneCell')=true:=by
 rw[Array.all_eq_true_iff_forall_mem];intro v hv;simp only[AR.C,List.mem_toArray,List.mem_cons,List.not_mem_nil,or_false]at hv;rcases hv with rfl|rfl|rfl<;>first|rfl
structure Nb where
 addr:Nat
 asn:Int
 inn:List UInt8
 out:List UInt8
deriving Inhabited
def Nb.C(x:Nb):Array Value:=#[.int .u32 (x.addr:Int),.int .i64 x.asn,strV x.inn,strV x.out]
def Nb.fit(x:Nb):Prop:=x.addr<4294967296
theorem Tryz.rowNb:(Tryz.prog.underlying 115).map TypeDesc.isRow=some true:=by kernel_rfl
theorem Tryz.sizeNb:(Tryz.prog.info? 115).map (·.size)=some 4:=by kernel_rfl
theorem Nb.one(x:Nb):x.C.all (·.oneCell')=true:=by
 rw[Array.all_eq_true_iff_forall_mem];intro v hv;simp only[Nb.C,List.mem_toArray,List.mem_cons,List.not_mem_nil,or_false]at hv;rcases hv with rfl|rfl|rfl|rfl<;>first|rfl
structure Pf where
 pa:Nat
 pl:Int
deriving Inhabited
def Pf.C(x:Pf):Array Value:=#[.int .u32 (x.pa:Int),.int .i64 x.pl]
def Pf.fit(x:Pf):Prop:=x.pa<4294967296
theorem Tryz.rowPf:(Tryz.prog.underlying 90).map TypeDesc.isRow=some true:=by kernel_rfl
theorem Tryz.sizePf:(Tryz.prog.info? 90).map (·.size)=some 2:=by kernel_rfl
theorem Pf.one(x:Pf):x.C.all (·.oneCell')=true:=by
 rw[Array.all_eq_true_iff_forall_mem];intro v hv;simp only[Pf.C,List.mem_toArray,List.mem_cons,List.not_mem_nil,or_false]at hv;rcases hv with rfl|rfl<;>first|rfl
structure Ag where
 pa:Nat
 pl:Int
 only:Bool
deriving Inhabited
def Ag.C(x:Ag):Array Value:=#[.int .u32 (x.pa:Int),.int .i64 x.pl,.bool x.only]
def Ag.fit(x:Ag):Prop:=x.pa<4294967296
theorem Tryz.rowAg:(Tryz.prog.underlying 117).map TypeDesc.isRow=some true:=by kernel_rfl
theorem Tryz.sizeAg:(Tryz.prog.info? 117).map (·.size)=some 3:=by kernel_rfl
theorem Ag.one(x:Ag):x.C.all (·.oneCell')=true:=by
 rw[Array.all_eq_true_iff_forall_mem];intro v hv;simp only[Ag.C,List.mem_toArray,List.mem_cons,List.not_mem_nil,or_false]at hv;rcases hv with rfl|rfl|rfl<;>first|rfl
structure Cd where
 pa:Nat
 pl:Int
 ia:Nat
 il:Int
 absent:Bool
deriving Inhabited
def Cd.C(x:Cd):Array Value:=#[.int .u32 (x.pa:Int),.int .i64 x.pl,.int .u32 (x.ia:Int),.int .i64 x.il,.bool x.absent]
def Cd.fit(x:Cd):Prop:=x.pa<4294967296∧x.ia<4294967296
theorem Tryz.rowCd:(Tryz.prog.underlying 119).map TypeDesc.isRow=some true:=by kernel_rfl
theorem Tryz.sizeCd:(Tryz.prog.info? 119).map (·.size)=some 5:=by kernel_rfl
theorem Cd.one(x:Cd):x.C.all (·.oneCell')=true:=by
 rw[Array.all_eq_true_iff_forall_mem];intro v hv;simp only[Cd.C,List.mem_toArray,List.mem_cons,List.not_mem_nil,or_false]at hv;rcases hv with rfl|rfl|rfl|rfl|rfl<;>first|rfl
structure Rt where
 name:List UInt8
 asn:Int
 ifsV:Value
 listsV:Value
 mapsV:Value
 aclsV:Value
 natV:Value
 statV:Value
 lsOn:Bool
 lsAdmin:Int
 rangesV:Value
 lsRedV:Value
 dvOn:Bool
 dvAdmin:Int
 dvIn:List UInt8
 dvOut:List UInt8
 dvRedV:Value
 pvOn:Bool
 ext:Int
 int:Int
 nbV:Value
 netV:Value
 agV:Value
 cdV:Value
 pvRedV:Value
 ifs:List If
 lists:List PList
 maps:List RMap
 acls:List AList
 nat:List Tr
 stat:List Sr
 ranges:List AR
 lsRed:List Rd
 dvRed:List Rd
 nb:List Nb
 net:List Pf
 ag:List Ag
 cd:List Cd
 pvRed:List Rd
deriving Inhabited
def Rt.C(x:Rt):Array Value:=#[strV x.name,.int .i64 x.asn,x.ifsV,x.listsV,x.mapsV,x.aclsV,x.natV,x.statV,.bool x.lsOn,.int .i64 x.lsAdmin,x.rangesV,x.lsRedV,.bool x.dvOn,.int .i64 x.dvAdmin,strV x.dvIn,strV x.dvOut,x.dvRedV,.bool x.pvOn,.int .i64 x.ext,.int .i64 x.int,x.nbV,x.netV,x.agV,x.cdV,x.pvRedV]
theorem Tryz.rowRt:(Tryz.prog.underlying 41).map TypeDesc.isRow=some true:=by kernel_rfl
theorem Tryz.sizeRt:(Tryz.prog.info? 41).map (·.size)=some 25:=by kernel_rfl
theorem Rt.one(x:Rt)(h0:x.ifsV.oneCell' = true)(h1:x.listsV.oneCell' = true)(h2:x.mapsV.oneCell' = true)(h3:x.aclsV.oneCell' = true)(h4:x.natV.oneCell' = true)(h5:x.statV.oneCell' = true)(h6:x.rangesV.oneCell' = true)(h7:x.lsRedV.oneCell' = true)(h8:x.dvRedV.oneCell' = true)(h9:x.nbV.oneCell' = true)(h10:x.netV.oneCell' = true)(h11:x.agV.oneCell' = true)(h12:x.cdV.oneCell' = true)(h13:x.pvRedV.oneCell' = true):x.C.all (·.oneCell')=true:=by
 rw[Array.all_eq_true_iff_forall_mem];intro v hv;simp only[Rt.C,List.mem_toArray,List.mem_cons,List.not_mem_nil,or_false]at hv;rcases hv with rfl|rfl|rfl|rfl|rfl|rfl|rfl|rfl|rfl|rfl|rfl|rfl|rfl|rfl|rfl|rfl|rfl|rfl|rfl|rfl|rfl|rfl|rfl|rfl|rfl<;>first|rfl|exact h0|exact h1|exact h2|exact h3|exact h4|exact h5|exact h6|exact h7|exact h8|exact h9|exact h10|exact h11|exact h12|exact h13
theorem SlV.one{α:Type}{w:World}{B n:Nat}{cells:α→Array Value}{v:Value}{xs:List α}(h:SlV w B n cells v xs):v.oneCell' = true:=by obtain⟨A,c,rfl,_⟩:=h;rfl
structure Rt.at (w:World) (B:Nat) (r:Rt):Prop where
 hifs:SlV w B 12 If.C r.ifsV r.ifs
 hlists:SlV w B 2 PList.C r.listsV r.lists
 nlists:∀x∈r.lists,x.at w B
 hmaps:SlV w B 2 RMap.C r.mapsV r.maps
 nmaps:∀x∈r.maps,x.at w B
 hacls:SlV w B 2 AList.C r.aclsV r.acls
 nacls:∀x∈r.acls,x.at w B
 hnat:SlV w B 9 Tr.C r.natV r.nat
 hstat:SlV w B 7 Sr.C r.statV r.stat
 hranges:SlV w B 3 AR.C r.rangesV r.ranges
 hlsRed:SlV w B 5 Rd.C r.lsRedV r.lsRed
 hdvRed:SlV w B 5 Rd.C r.dvRedV r.dvRed
 hnb:SlV w B 4 Nb.C r.nbV r.nb
 hnet:SlV w B 2 Pf.C r.netV r.net
 hag:SlV w B 3 Ag.C r.agV r.ag
 hcd:SlV w B 5 Cd.C r.cdV r.cd
 hpvRed:SlV w B 5 Rd.C r.pvRedV r.pvRed
def Rt.fit(r:Rt):Prop:=(∀x∈r.ifs,x.fit)∧(∀x∈r.lists,x.fit)∧(∀x∈r.maps,x.fit)∧(∀x∈r.acls,x.fit)∧(∀x∈r.nat,x.fit)∧(∀x∈r.stat,x.fit)∧(∀x∈r.ranges,x.fit)∧(∀x∈r.lsRed,x.fit)∧(∀x∈r.dvRed,x.fit)∧(∀x∈r.nb,x.fit)∧(∀x∈r.net,x.fit)∧(∀x∈r.ag,x.fit)∧(∀x∈r.cd,x.fit)∧(∀x∈r.pvRed,x.fit)
theorem Rt.at.below{w w' : World}{B:Nat}{r:Rt}(h:r.at w B)(hb:Below B w w'):r.at w' B:=⟨h.hifs.below hb,h.hlists.below hb,fun x hx=>SlV.below (h.nlists x hx) hb,h.hmaps.below hb,fun x hx=>SlV.below (h.nmaps x hx) hb,h.hacls.below hb,fun x hx=>SlV.below (h.nacls x hx) hb,h.hnat.below hb,h.hstat.below hb,h.hranges.below hb,h.hlsRed.below hb,h.hdvRed.below hb,h.hnb.below hb,h.hnet.below hb,h.hag.below hb,h.hcd.below hb,h.hpvRed.below hb⟩
theorem Rt.at.one{w:World}{B:Nat}{r:Rt}(h:r.at w B):r.C.all (·.oneCell')=true:=r.one h.hifs.one h.hlists.one h.hmaps.one h.hacls.one h.hnat.one h.hstat.one h.hranges.one h.hlsRed.one h.hdvRed.one h.hnb.one h.hnet.one h.hag.one h.hcd.one h.hpvRed.one
def wV(p:Ps):List UInt8:=p.fs.headD []
def wS(p:Ps):Ps:=match p.fs with
 |[]=>⟨[],true⟩
 |_ :: r=>⟨r,p.bad⟩
def isW(x:List UInt8)(p:Ps):Bool:=p.fs.head? == some x
def optS(x:List UInt8)(p:Ps):Ps:=if isW x p then⟨p.fs.tail,p.bad⟩else p
def mustS(ok:Bool)(p:Ps):Ps:=if ok then p else p.fail
def doneB(p:Ps):Bool:=!p.bad&&p.fs.isEmpty
def chB(a _b:List UInt8)(p:Ps):Bool:=wV p==a
def chS(a b:List UInt8)(p:Ps):Ps:=mustS (wV p==a||wV p==b) (wS p)
def nmV(p:Ps):List UInt8:=wV p
def nmS(p:Ps):Ps:=mustS (nameB (wV p)) (wS p)
def noV(lo hi:Int)(p:Ps):Int:=numV (numIn (wV p) lo hi)
def noS(lo hi:Int)(p:Ps):Ps:=mustS (numIn (wV p) lo hi).isSome (wS p)
def adV(p:Ps):Nat:=(zDa (wV p)).getD 0
def adS(p:Ps):Ps:=mustS (zDa (wV p)).isSome (wS p)
def hoV(p:Ps):Nat × Int:=(hostA (wV p)).getD (0,0)
def hoS(p:Ps):Ps:=mustS ((hostA (wV p)).isSome && !((hoV p).1==0) && !((hoV p).2==0)) (wS p)
def pxV(p:Ps):Nat × Int:=(pfxA (wV p)).getD (0,0)
def pxS(p:Ps):Ps:=mustS (pfxA (wV p)).isSome (wS p)
def cutL(c:UInt8):List UInt8→List UInt8 × List UInt8 × Bool
 |[]=>([],[],false)
 |x :: r=>if x==c then([],r,true)else(x :: (cutL c r).1,(cutL c r).2.1,(cutL c r).2.2)
def wildA(l:List UInt8):Option (Nat × Nat) :=
 if l==[97,110,121]then some (0,4294967295)
 else match zDa l with
 |some a=>some (a,0)
 |none=>match pfxA l with
  |some p=>some (p.1,4294967295 - maskN p.2)
  |none=>match zDa (cutL 126 l).1 with
   |none=>none
   |some a=>match zDa (cutL 126 l).2.1 with
    |none=>none
    |some m=>if a &&& m==0 then some (a,m)else none
def wiV(p:Ps):Nat × Nat:=(wildA (wV p)).getD (0,0)
def wiS(p:Ps):Ps:=mustS (wildA (wV p)).isSome (wS p)
def portA(l:List UInt8):Option (Int × Int) :=
 match numIn (cutL 45 l).1 0 65535 with
 |none=>none
 |some lo=>if(cutL 45 l).2.2 then(match numIn (cutL 45 l).2.1 0 65535 with
   |none=>none
   |some hi=>some (lo,hi))else some (lo,lo)
def poV(p:Ps):Int × Int:=(portA (wV p)).getD (0,0)
def poS(p:Ps):Ps:=mustS (portA (wV p)).isSome (wS p)
def protV(p:Ps):Int:=if isW [105,112] p then -1 else if isW [116,99,112] p then 6 else if isW [117,100,112] p then 17 else noV 0 255 p
def protS(p:Ps):Ps:=if isW [105,112] p then optS [105,112] p else if isW [116,99,112] p then optS [116,99,112] p else if isW [117,100,112] p then optS [117,100,112] p else noS 0 255 p
def srcOf(l:List UInt8):Int:=if l==[99,111,110,110,101,99,116,101,100]then 1 else if l==[115,116,97,116,105,99]then 2 else if l==[108,115]then 3 else if l==[100,118]then 4 else if l==[112,118]then 5 else 0
def srcV(p:Ps):Int:=srcOf (wV p)
def srcS(p:Ps):Ps:=mustS (!(srcOf (wV p)==0)) (wS p)
structure Ls (α:Type) where
 name:List UInt8
 seqs:List Int
 items:List α
structure Al where
 name:List UInt8
 asn:Int
 ifs:List If
 nat:List Tr
 stat:List Sr
 lsOn:Bool
 lsAdmin:Int
 ranges:List AR
 lsRed:List Rd
 dvOn:Bool
 dvAdmin:Int
 dvIn:List UInt8
 dvOut:List UInt8
 dvRed:List Rd
 pvOn:Bool
 ext:Int
 int:Int
 nb:List Nb
 net:List Pf
 ag:List Ag
 cd:List Cd
 pvRed:List Rd
 lists:List (Ls PRule)
 maps:List (Ls Cl)
 acls:List (Ls Ru)
 block:Int
 iface:Nat
 clause:Nat × Nat
def Al.zero:Al:=⟨[],0,[],[],[],false,0,[],[],false,0,[],[],[],false,0,0,[],[],[],[],[],[],[],[],0,0,0,0⟩
def replL{α:Type}(like:α→Bool)(x:α):List α→List α
 |[]=>[x]
 |y :: r=>if like y then x :: r else y :: replL like x r
def dropL{α:Type}(like:α→Bool)(l:List α):List α:=l.filter fun y => !like y
def zCj(q:Int):List Int→Nat
 |[]=>0
 |y :: r=>if y<q then zCj q r+1 else 0
def insAt{α:Type}(l:List α)(i:Nat)(x:α):List α:=l.take i++x :: l.drop i
def delAt{α:Type}(l:List α)(i:Nat):List α:=l.take i++l.drop (i+1)
def zDb{α:Type}(l:List α)(i:Nat)(x:α):List α:=l.take i++x :: l.drop (i+1)
def zIj(q:Int)(l:List Int):Bool:=l[zCj q l]? == some q
def putOne{α:Type}(q:Int)(x:α)(l:Ls α):Ls α :=
 if zIj q l.seqs then { l with items:=zDb l.items (zCj q l.seqs) x } else { l with seqs:=insAt l.seqs (zCj q l.seqs) q,items:=insAt l.items (zCj q l.seqs) x }
def findL{α:Type}(n:List UInt8):List (Ls α)→Nat
 |[]=>0
 |y :: r=>if y.name==n then 0 else findL n r+1
def putL{α:Type}(n:List UInt8)(q:Int)(x:α)(l:List (Ls α)):List (Ls α) :=
 match l[findL n l]? with
 |some y=>zDb l (findL n l) (putOne q x y)
 |none=>l++[⟨n,[q],[x]⟩]
def putAt{α:Type}(n:List UInt8)(q:Int)(l:List (Ls α)):Nat × Nat :=
 match l[findL n l]? with
 |some y=>(findL n l,zCj q y.seqs)
 |none=>(l.length,0)
def dropOne{α:Type}(q:Int)(l:Ls α):Ls α:=if zIj q l.seqs then { l with seqs:=delAt l.seqs (zCj q l.seqs),items:=delAt l.items (zCj q l.seqs) } else l
def dropLs{α:Type}(n:List UInt8)(q:Int)(l:List (Ls α)):List (Ls α) :=
 match l[findL n l]? with
 |none=>l
 |some y=>if(dropOne q y).items.isEmpty then delAt l (findL n l)else zDb l (findL n l) (dropOne q y)
abbrev Sa:=Al × Ps
def zFr{α:Type}(p:Ps)(l:List (Ls α)):List (Ls α) × Ps :=
 if(nmS p).fs.isEmpty then(l.filter (fun y => !(y.name==nmV p)),nmS p)else(dropLs (nmV p) (noV 1 65535 (nmS p)) l,noS 1 65535 (nmS p))
def ifZ(n:List UInt8):If:=⟨n,0,0,0,true,false,0,0,false,[],[],0⟩
def findI(n:List UInt8):List If→Nat
 |[]=>0
 |y :: r=>if y.name==n then 0 else findI n r+1
def zDp(n:List UInt8)(a:Al):Al :=
 if findI n a.ifs<a.ifs.length then { a with block:=1,iface:=findI n a.ifs } else { a with ifs:=a.ifs++[ifZ n],block:=1,iface:=a.ifs.length }
def pRule(a:Al)(p:Ps):Sa :=
 let n:=nmV p;let p1:=nmS p
 let q:=noV 1 65535 p1;let p2:=noS 1 65535 p1
 let y:=chB [112,101,114,109,105,116] [100,101,110,121] p2;let p3:=chS [112,101,114,109,105,116] [100,101,110,121] p2
 let x:=pxV p3;let p4:=pxS p3
 let g:=isW [103,101] p4
 let mn:=if g then noV 0 32 (optS [103,101] p4)else x.2
 let p5:=if g then noS 0 32 (optS [103,101] p4)else p4
 let l:=isW [108,101] p5
 let mx:=if l then noV 0 32 (optS [108,101] p5)else if g then 32 else x.2
 let p6:=if l then noS 0 32 (optS [108,101] p5)else p5
 ({ a with lists:=putL n q ⟨y,x.1,x.2,mn,mx⟩ a.lists },p6)
def clZ(y:Bool):Cl:=⟨y,[], -1, -1, -1, -1,0⟩
def pClause(a:Al)(p:Ps):Sa :=
 let n:=nmV p;let p1:=nmS p
 let q:=noV 1 65535 p1;let p2:=noS 1 65535 p1
 let y:=chB [112,101,114,109,105,116] [100,101,110,121] p2;let p3:=chS [112,101,114,109,105,116] [100,101,110,121] p2
 ({ a with maps:=putL n q (clZ y) a.maps,clause:=putAt n q a.maps,block:=2 },p3)
def pAccess(a:Al)(p:Ps):Sa :=
 let n:=nmV p;let p1:=nmS p
 let q:=noV 1 65535 p1;let p2:=noS 1 65535 p1
 let y:=chB [112,101,114,109,105,116] [100,101,110,121] p2;let p3:=chS [112,101,114,109,105,116] [100,101,110,121] p2
 let pr:=protV p3;let p4:=protS p3
 let s:=wiV p4;let p5:=wiS p4
 let d:=wiV p5;let p6:=wiS p5
 let f:=isW [102,114,111,109] p6
 let sp:=if f then poV (optS [102,114,111,109] p6)else(0,65535)
 let p7:=if f then poS (optS [102,114,111,109] p6)else p6
 let t:=isW [116,111] p7
 let dp:=if t then poV (optS [116,111] p7)else(0,65535)
 let p8:=if t then poS (optS [116,111] p7)else p7
 ({ a with acls:=putL n q ⟨y,pr,s.1,s.2,d.1,d.2,sp.1,sp.2,dp.1,dp.2⟩ a.acls },p8)
def trZ:Tr:=⟨0,0,0,0,0,0,[],0,0⟩
def pTrans(p:Ps):Tr × Ps :=
 let w:=wV p;let p1:=wS p
 if w==[115,116,97,116,105,99]then({ trZ with kind:=1,ins:=adV p1,outs:=adV (adS p1) },adS (adS p1))
 else if w==[112,111,111,108]then({ trZ with kind:=2,list:=nmV p1,lo:=adV (nmS p1),hi:=adV (adS (nmS p1)) },adS (adS (nmS p1)))
 else if w==[102,111,114,119,97,114,100]then
  let t:=chB [116,99,112] [117,100,112] p1;let p2:=chS [116,99,112] [117,100,112] p1
  let o:=adV p2;let p3:=adS p2
  let op:=noV 0 65535 p3;let p4:=noS 0 65535 p3
  let i:=adV p4;let p5:=adS p4
  ({ trZ with kind:=3,proto:=if t then 6 else 17,outs:=o,oport:=op,ins:=i,iport:=noV 0 65535 p5 },noS 0 65535 p5)
 else(trZ,p1.fail)
def likeSr(x y:Sr):Bool:=decide (y.pa=x.pa∧y.pl=x.pl)&&y.admin==x.admin
def zEt(p:Ps):Sr × Ps :=
 let x:=pxV p;let p1:=pxS p
 let w:=wV p1;let p2:=wS p1
 let y:Sr:=⟨x.1,x.2,0,[],false,1,0⟩
 let b:Sr × Ps:=if w==[118,105,97]then({ y with next:=adV p2 },adS p2)else if w==[105,110,116,101,114,102,97,99,101]then({ y with iface:=nmV p2 },nmS p2)else if w==[100,105,115,99,97,114,100]then({ y with discard:=true },p2)else(y,p2.fail)
 let c:Sr × Ps:=if isW [97,100,109,105,110] b.2 then({ b.1 with admin:=noV 1 255 (optS [97,100,109,105,110] b.2) },noS 1 255 (optS [97,100,109,105,110] b.2))else b
 if isW [116,97,103] c.2 then({ c.1 with tag:=noV 0 65535 (optS [116,97,103] c.2) },noS 0 65535 (optS [116,97,103] c.2))else c
def pProto(a:Al)(p:Ps):Sa :=
 let w:=wV p;let p1:=wS p
 if w==[108,115]then(if a.lsOn then { a with block:=3 } else { a with block:=3,lsOn:=true,lsAdmin:=110 },p1)
 else if w==[100,118]then(if a.dvOn then { a with block:=4 } else { a with block:=4,dvOn:=true,dvAdmin:=120 },p1)
 else if w==[112,118]then(if a.pvOn then { a with block:=5 } else { a with block:=5,pvOn:=true,ext:=20,int:=200 },p1)
 else(a,p1.fail)
def globS(word:List UInt8)(a:Al)(p:Ps):Sa :=
 if word==[104,111,115,116,110,97,109,101]then({ a with name:=nmV p },nmS p)
 else if word==[97,115]then({ a with asn:=noV 1 65535 p },noS 1 65535 p)
 else if word==[105,110,116,101,114,102,97,99,101]then(zDp (nmV p) a,nmS p)
 else if word==[112,114,101,102,105,120,45,108,105,115,116]then pRule a p
 else if word==[114,111,117,116,101,45,109,97,112]then pClause a p
 else if word==[97,99,99,101,115,115,45,108,105,115,116]then pAccess a p
 else if word==[110,97,116]then({ a with nat:=a.nat++[(pTrans p).1] },(pTrans p).2)
 else if word==[114,111,117,116,101]then({ a with stat:=replL (likeSr (zEt p).1) (zEt p).1 a.stat },(zEt p).2)
 else if word==[114,111,117,116,101,114]then pProto a p
 else(a,p.fail)
def remS(word:List UInt8)(a:Al)(p:Ps):Sa :=
 if word==[97,115]then({ a with asn:=0 },p)
 else if word==[105,110,116,101,114,102,97,99,101]then({ a with ifs:=dropL (fun x=>x.name==nmV p) a.ifs },nmS p)
 else if word==[112,114,101,102,105,120,45,108,105,115,116]then({ a with lists:=(zFr p a.lists).1 },(zFr p a.lists).2)
 else if word==[114,111,117,116,101,45,109,97,112]then({ a with maps:=(zFr p a.maps).1 },(zFr p a.maps).2)
 else if word==[97,99,99,101,115,115,45,108,105,115,116]then({ a with acls:=(zFr p a.acls).1 },(zFr p a.acls).2)
 else if word==[110,97,116]then({ a with nat:=[] },p)
 else if word==[114,111,117,116,101]then({ a with stat:=dropL (fun x=>decide (x.pa=(pxV p).1∧x.pl=(pxV p).2)) a.stat },pxS p)
 else if word==[114,111,117,116,101,114]then
  (if wV p==[108,115]then({ a with lsOn:=false,lsAdmin:=0,ranges:=[],lsRed:=[] },wS p)
  else if wV p==[100,118]then({ a with dvOn:=false,dvAdmin:=0,dvIn:=[],dvOut:=[],dvRed:=[] },wS p)
  else if wV p==[112,118]then({ a with pvOn:=false,ext:=0,int:=0,nb:=[],net:=[],ag:=[],cd:=[],pvRed:=[] },wS p)
  else(a,(wS p).fail))
 else(a,p.fail)
def ifCmd(x:If)(word:List UInt8)(no:Bool)(p:Ps):If × Ps :=
 if word==[97,100,100,114,101,115,115]then(if no then({ x with addr:=0,len:=0 },p)else({ x with addr:=(hoV p).1,len:=(hoV p).2 },hoS p))
 else if word==[118,108,97,110]then(if no then({ x with vlan:=0 },p)else({ x with vlan:=noV 0 4094 p },noS 0 4094 p))
 else if word==[115,104,117,116,100,111,119,110]then({ x with down:=!no },p)
 else if word==[108,115]then
  (if no then({ x with ls:=false,area:=0,cost:=0 },p)
  else
   let p1:=mustS (isW [97,114,101,97] p) (optS [97,114,101,97] p)
   let ar:=noV 0 255 p1;let p2:=noS 0 255 p1
   if isW [99,111,115,116] p2 then({ x with ls:=true,area:=ar,cost:=noV 1 65535 (optS [99,111,115,116] p2) },noS 1 65535 (optS [99,111,115,116] p2))else({ x with ls:=true,area:=ar,cost:=10 },p2))
 else if word==[100,118]then({ x with dv:=!no },p)
 else if word==[105,110]then(if no then({ x with inn:=[] },p)else({ x with inn:=nmV p },nmS p))
 else if word==[111,117,116]then(if no then({ x with out:=[] },p)else({ x with out:=nmV p },nmS p))
 else if word==[115,105,100,101]then(if no then({ x with side:=0 },p)else({ x with side:=if chB [105,110,115,105,100,101] [111,117,116,115,105,100,101] p then 1 else 2 },chS [105,110,115,105,100,101] [111,117,116,115,105,100,101] p))
 else(x,p)
def clCmd(c:Cl)(word:List UInt8)(no:Bool)(p:Ps):Cl × Ps :=
 if word==[109,97,116,99,104]then
  (if no then({ c with list:=[],tag := -1 },p)
  else if chB [108,105,115,116] [116,97,103] p then({ c with list:=nmV (chS [108,105,115,116] [116,97,103] p) },nmS (chS [108,105,115,116] [116,97,103] p))else({ c with tag:=noV 0 65535 (chS [108,105,115,116] [116,97,103] p) },noS 0 65535 (chS [108,105,115,116] [116,97,103] p)))
 else if word==[115,101,116]then
  (if no then({ c with setM := -1,setT := -1,setP := -1 },p)
  else if wV p==[109,101,116,114,105,99]then({ c with setM:=noV 0 16777215 (wS p) },noS 0 16777215 (wS p))
  else if wV p==[116,97,103]then({ c with setT:=noV 0 65535 (wS p) },noS 0 65535 (wS p))
  else if wV p==[112,114,101,102,101,114,101,110,99,101]then({ c with setP:=noV 0 1000000 (wS p) },noS 0 1000000 (wS p))
  else(c,(wS p).fail))
 else if word==[112,114,101,112,101,110,100] && !no then({ c with prep:=noV 0 8 p },noS 0 8 p)
 else(c,p.fail)
def zJr(l:List Rd)(into:Int)(no:Bool)(p:Ps):List Rd × Ps :=
 let f:=srcV p;let p1:=srcS p
 if no then(dropL (fun y=>y.frm==f) l,p1)
 else
  let x:Rd:=⟨f,if into==3 then 20 else if into==4 then 1 else 0,0,[],if into==3 then 2 else 0⟩
  let b:Rd × Ps:=if isW [109,101,116,114,105,99] p1 then({ x with metric:=noV 0 16777215 (optS [109,101,116,114,105,99] p1) },noS 0 16777215 (optS [109,101,116,114,105,99] p1))else(x,p1)
  let c:Rd × Ps:=if isW [116,97,103] b.2 then({ b.1 with tag:=noV 0 65535 (optS [116,97,103] b.2) },noS 0 65535 (optS [116,97,103] b.2))else b
  let d:Rd × Ps:=if isW [109,97,112] c.2 then({ c.1 with map:=nmV (optS [109,97,112] c.2) },nmS (optS [109,97,112] c.2))else c
  let e:Rd × Ps:=if into==3&&isW [116,121,112,101] d.2 then({ d.1 with typ:=noV 1 2 (optS [116,121,112,101] d.2) },noS 1 2 (optS [116,121,112,101] d.2))else d
  (replL (fun y=>y.frm==f) e.1 l,e.2)
def lsCmd(word:List UInt8)(no:Bool)(a:Al)(p:Ps):Sa :=
 if word==[100,105,115,116,97,110,99,101] && !no then({ a with lsAdmin:=noV 1 255 p },noS 1 255 p)
 else if word==[114,97,110,103,101]then
  let x:AR:=⟨noV 0 255 p,(pxV (noS 0 255 p)).1,(pxV (noS 0 255 p)).2⟩
  let p2:=pxS (noS 0 255 p)
  let same:AR→Bool:=fun y=>decide (y.area=x.area∧y.pa=x.pa∧y.pl=x.pl)
  ({ a with ranges:=if no then dropL same a.ranges else replL same x a.ranges },p2)
 else if word==[114,101,100,105,115,116,114,105,98,117,116,101]then({ a with lsRed:=(zJr a.lsRed 3 no p).1 },(zJr a.lsRed 3 no p).2)
 else(a,p.fail)
def dvCmd(word:List UInt8)(no:Bool)(a:Al)(p:Ps):Sa :=
 if word==[100,105,115,116,97,110,99,101] && !no then({ a with dvAdmin:=noV 1 255 p },noS 1 255 p)
 else if word==[102,105,108,116,101,114]then
  (if no then({ a with dvIn:=[],dvOut:=[] },p)
  else if chB [105,110] [111,117,116] p then({ a with dvIn:=nmV (chS [105,110] [111,117,116] p) },nmS (chS [105,110] [111,117,116] p))else({ a with dvOut:=nmV (chS [105,110] [111,117,116] p) },nmS (chS [105,110] [111,117,116] p)))
 else if word==[114,101,100,105,115,116,114,105,98,117,116,101]then({ a with dvRed:=(zJr a.dvRed 4 no p).1 },(zJr a.dvRed 4 no p).2)
 else(a,p.fail)
def nbCmd(l:List Nb)(no:Bool)(p:Ps):List Nb × Ps :=
 let x:=adV p;let p1:=adS p
 if no then(dropL (fun y=>y.addr==x) l,p1)
 else
  let p2:=mustS (isW [97,115] p1) (optS [97,115] p1)
  let n:=noV 1 65535 p2;let p3:=noS 1 65535 p2
  let i:=isW [105,110] p3
  let nn:=if i then nmV (optS [105,110] p3)else []
  let p4:=if i then nmS (optS [105,110] p3)else p3
  let o:=isW [111,117,116] p4
  let no' := if o then nmV (optS [111,117,116] p4)else []
  let p5:=if o then nmS (optS [111,117,116] p4)else p4
  (replL (fun y=>y.addr==x) ⟨x,n,nn,no'⟩ l,p5)
def cdCmd(l:List Cd)(no:Bool)(p:Ps):List Cd × Ps :=
 let x:=pxV p;let p1:=pxS p
 let same:Cd→Bool:=fun y=>decide (y.pa=x.1∧y.pl=x.2)
 if no then(dropL same l,p1)
 else
  let b:=!chB [105,102] [117,110,108,101,115,115] p1;let p2:=chS [105,102] [117,110,108,101,115,115] p1
  (replL same ⟨x.1,x.2,(pxV p2).1,(pxV p2).2,b⟩ l,pxS p2)
def pvCmd(word:List UInt8)(no:Bool)(a:Al)(p:Ps):Sa :=
 if word==[100,105,115,116,97,110,99,101] && !no then
  (if chB [101,120,116,101,114,110,97,108] [105,110,116,101,114,110,97,108] p then({ a with ext:=noV 1 255 (chS [101,120,116,101,114,110,97,108] [105,110,116,101,114,110,97,108] p) },noS 1 255 (chS [101,120,116,101,114,110,97,108] [105,110,116,101,114,110,97,108] p))else({ a with int:=noV 1 255 (chS [101,120,116,101,114,110,97,108] [105,110,116,101,114,110,97,108] p) },noS 1 255 (chS [101,120,116,101,114,110,97,108] [105,110,116,101,114,110,97,108] p)))
 else if word==[110,101,105,103,104,98,111,114]then({ a with nb:=(nbCmd a.nb no p).1 },(nbCmd a.nb no p).2)
 else if word==[110,101,116,119,111,114,107]then
  let x:=pxV p
  let same:Pf→Bool:=fun y=>decide (y.pa=x.1∧y.pl=x.2)
  ({ a with net:=if no then dropL same a.net else replL same ⟨x.1,x.2⟩ a.net },pxS p)
 else if word==[97,103,103,114,101,103,97,116,101]then
  let x:=pxV p;let p1:=pxS p
  let same:Ag→Bool:=fun y=>decide (y.pa=x.1∧y.pl=x.2)
  (if no then({ a with ag:=dropL same a.ag },p1)else({ a with ag:=replL same ⟨x.1,x.2,isW [111,110,108,121] p1⟩ a.ag },optS [111,110,108,121] p1))
 else if word==[111,114,105,103,105,110,97,116,101]then({ a with cd:=(cdCmd a.cd no p).1 },(cdCmd a.cd no p).2)
 else if word==[114,101,100,105,115,116,114,105,98,117,116,101]then({ a with pvRed:=(zJr a.pvRed 5 no p).1 },(zJr a.pvRed 5 no p).2)
 else(a,p.fail)
def ifWords:List (List UInt8):=[[97,100,100,114,101,115,115],[118,108,97,110],[115,104,117,116,100,111,119,110],[108,115],[100,118],[105,110],[111,117,116],[115,105,100,101]]
def clWords:List (List UInt8):=[[109,97,116,99,104],[115,101,116],[112,114,101,112,101,110,100]]
def prWords:List (List UInt8):=[[100,105,115,116,97,110,99,101],[114,97,110,103,101],[114,101,100,105,115,116,114,105,98,117,116,101],[102,105,108,116,101,114],[110,101,105,103,104,98,111,114],[110,101,116,119,111,114,107],[97,103,103,114,101,103,97,116,101],[111,114,105,103,105,110,97,116,101]]
def belB(block:Int)(word:List UInt8):Bool :=
 if block=1 then ifWords.contains word else if block=2 then clWords.contains word else if block=3∨block=4∨block=5 then prWords.contains word else false
def ifGet(a:Al):If:=(a.ifs[a.iface]?).getD (ifZ [])
def clGet(a:Al):Cl:=(((a.maps[a.clause.1]?).bind fun l=>l.items[a.clause.2]?)).getD (clZ false)
def clSet(a:Al)(c:Cl):Al:=match a.maps[a.clause.1]? with
 |none=>a
 |some l=>{ a with maps:=zDb a.maps a.clause.1 { l with items:=zDb l.items a.clause.2 c } }
def innS(word:List UInt8)(no:Bool)(a:Al)(p:Ps):Sa :=
 if a.block=1 then({ a with ifs:=zDb a.ifs a.iface (ifCmd (ifGet a) word no p).1 },(ifCmd (ifGet a) word no p).2)
 else if a.block=2 then(clSet a (clCmd (clGet a) word no p).1,(clCmd (clGet a) word no p).2)
 else if a.block=3 then lsCmd word no a p
 else if a.block=4 then dvCmd word no a p
 else if a.block=5 then pvCmd word no a p
 else(a,p)
def lineS(fs:List (List UInt8))(a:Al):Al × Bool :=
 let no:=fs.head? == some [110,111]
 match(if no then fs.tail else fs)with
 |[]=>(a,false)
 |word :: r=>
  let x:Sa:=if belB a.block word then innS word no a ⟨r,false⟩else if no then remS word { a with block:=0 } ⟨r,false⟩else globS word { a with block:=0 } ⟨r,false⟩
  (x.1,doneB x.2)
def WSt(T:TypeId)(b B:Nat)(p:Ps)(w:World):Prop:=B≤b∧∃v,w.heap[b]? = some (.cells #[v,.bool p.bad] T (0,0))∧Slc w B 1 v p.fs.length (p.fs.map strV)∧∃A c,v=.slice A p.fs.length c∧p.fs.length≤c
theorem WSt.lt{T:TypeId}{b B:Nat}{p:Ps}{w:World}(h:WSt T b B p w):b<w.heap.size:=by obtain⟨-,v,hv,-⟩:=h;exact zCv hv
theorem WSt.other{T:TypeId}{b B:Nat}{p:Ps}{w w' : World}(h:WSt T b B p w){row:Option Nat}(hg:w.grownBy w' row)(hr:∀g,row=some g→B≤g∧g≠b):WSt T b B p w' := by
 obtain⟨h1,v,hv,hs,hc⟩:=h;refine⟨h1,v,(hg.block b (zCv hv) (fun e=>(hr b e.symm).2 rfl)).trans hv,hs.grown hg (fun k hk g o c e hn=>?_),hc⟩;obtain⟨A,c', e',-,-,-,hx⟩:=hs;obtain⟨g', o', rfl,hgB,-⟩:=hx hn;rw[e']at e;injection e with e1 _ _
 injection e1 with e1
 injection e1 with e1 _ _
 have:=(hr k hk).1;omega
theorem WSt.keep{T:TypeId}{b B:Nat}{p:Ps}{w w' : World}(h:WSt T b B p w)(hb:Below w.heap.size w w'):WSt T b B p w' := h.other (zFm (Nat.le_refl _) hb none) (fun g e=>by cases e)
theorem WSt.failed{T:TypeId}{b B:Nat}{p:Ps}{w:World}(h:WSt T b B p w):WSt T b B p.fail (w.setCell ⟨b,1,none⟩ (.bool true))∧w.grownBy (w.setCell ⟨b,1,none⟩ (.bool true)) (some b):=by
 obtain⟨h1,v,hv,hs,hc⟩:=h;have hg:=zDi w b 1 (.bool true);refine⟨⟨h1,v,Lib.heap_setCell_same (i:=1) hv _,hs.grown hg (fun k hk g o c e hn=>?_),hc⟩,hg⟩;cases hk
 obtain⟨A,c', e',-,-,-,hx⟩:=hs;obtain⟨g', o', rfl,hgB,-⟩:=hx hn;rw[e']at e;injection e with e1 _ _
 injection e1 with e1
 injection e1 with e1 _ _
 omega
theorem WSt.popped{T:TypeId}{b B:Nat}{f:List UInt8}{r:List (List UInt8)}{bad:Bool}{w:World}(h:WSt T b B ⟨f :: r,bad⟩ w) :
  ∃g o c,w.heap[b]? = some (.cells #[.slice (some ⟨g,o,none⟩) (r.length+1) c,.bool bad] T (0,0))∧w.cell? ⟨g,o,none⟩=some (strV f)∧r.length+1≤c∧r.length+1≤maxLen ∧
   ∀A', (c≠1→A' = some ⟨g,o+1,none⟩)→A' ≠ none→WSt T b B ⟨r,bad⟩ (w.setCell ⟨b,0,none⟩ (.slice A' r.length (c - 1)))∧w.grownBy (w.setCell ⟨b,0,none⟩ (.slice A' r.length (c - 1))) (some b):=by
 obtain⟨h1,v,hv,hs,A,c,rfl,hc⟩:=h;obtain⟨A0,c0,e,hm,hl,hA,hx⟩:=hs;cases e
 obtain⟨g,o,rfl,hg,hcell⟩:=hx (by simp);have hgb:g≠b:=by omega
 have hgr:=fun u=>zDi w b 0 u
 refine⟨g,o,c,hv,by simpa using hcell 0 (strV f) rfl,by simpa using hc,by simpa using hm,fun A' hA' hn=>⟨⟨h1,_,Lib.heap_setCell_same (i:=0) hv _,?_,A', c - 1,rfl,?_⟩,hgr _⟩⟩
 ·refine⟨A', c - 1,rfl,?_,by simp,fun h=>absurd h hn,fun hr=>⟨g,o+1,hA' ?_,hg,fun j u hu=>?_⟩⟩
  ·simp only[List.length_cons]at hm;show r.length≤_;omega
  ·simp only[List.length_cons]at hc;have:0<r.length:=hr;omega
  ·have:=hcell (j+1) u (by simpa using hu)
   refine(hgr _).cell (a:=⟨g,o+1+j,none⟩) ?_ (fun e=>hgb (by injection e));rw[show o+1+j=o+(j+1)from by omega];exact this
 ·simp only[List.length_cons]at hc;show r.length≤_;omega
def WPost(T:TypeId)(b B:Nat)(v:Value)(p' : Ps)(w:World)(e:Ending)(w' : World):Prop:=e=.returned v∧WSt T b B p' w' ∧ w.grownBy w' (some b)
theorem WSt.bad1{T:TypeId}{b B:Nat}{p:Ps}{w:World}(h:WSt T b B p w):w.cell? ⟨b,1,none⟩=some (.bool p.bad):=by
 obtain⟨-,v,hv,-⟩:=h;rw[Lib.cell_of_heap hv];rfl
theorem WSt.frz{T:TypeId}{b B:Nat}{p:Ps}{w:World}(h:WSt T b B p w)(j:Nat):w.frozen? ⟨b,j,none⟩=false:=by
 obtain⟨-,v,hv,-⟩:=h;exact Lib.frozen_of_heap hv j
theorem WSt.rest0{T:TypeId}{b B:Nat}{p:Ps}{w:World}(h:WSt T b B p w):∃A c,w.cell? ⟨b,0,none⟩=some (.slice A p.fs.length c):=by
 obtain⟨-,v,hv,-,A,c,rfl,-⟩:=h;exact⟨A,c,by rw[Lib.cell_of_heap hv];rfl⟩
theorem zFp(b B:Nat)(p:Ps)(w:World)(h:WSt 185 b B p w):Calls Tryz.prog 170 #[.pointer (some ⟨b,0,none⟩)] w (WPost 185 b B (strV (wV p)) (wS p) w):=by
 obtain⟨fs,bad⟩:=p;cases fs with
 |nil=>
  obtain⟨A,c,c0⟩:=h.rest0;have f1:=h.frz 1;have c1:=h.bad1;have HF:=hid h.failed;clear h;go_enter Tryz.func170,Tryz.ntmps170;go_wp2;go_ret;exact⟨rfl,HF.out.1,HF.out.2⟩
 |cons f r=>
  obtain⟨g,o,c,hv,hf,hc,hm,hpop⟩:=WSt.popped h;have c0:w.cell? ⟨b,0,none⟩=some (.slice (some ⟨g,o,none⟩) (r.length+1) c):=by rw[Lib.cell_of_heap hv];rfl
  have f0:w.frozen? ⟨b,0,none⟩=false:=Lib.frozen_of_heap hv 0;have HP:=hid hpop;clear hv hpop h;unfold strV at hf;unfold maxLen at hm;go_enter Tryz.func170,Tryz.ntmps170;go_wp2_with fail
  ·go_ret
   have q:=HP.out (some ⟨g,o,none⟩) (fun h' => absurd (by assumption) h') (by simp);rw[show c - 1=0 from by omega]at q;obtain⟨q1,q2⟩:=q;exact⟨rfl,q1,q2⟩
  ·go_ret
   obtain⟨q1,q2⟩:=HP.out (some ⟨g,o+1,none⟩) (fun _=>rfl) (by simp);exact⟨rfl,q1,q2⟩
theorem isW_cons{f:List UInt8}{x:List UInt8}{r:List (List UInt8)}{bad:Bool}:isW x ⟨f :: r,bad⟩=(f==x):=by
 unfold isW;simp only[List.head?_cons];rfl
theorem zEs(b B:Nat)(p:Ps)(x:List UInt8)(w:World)(h:WSt 185 b B p w):Calls Tryz.prog 186 #[.pointer (some ⟨b,0,none⟩),.string (str x)] w (WPost 185 b B (.bool (isW x p)) (optS x p) w):=by
 obtain⟨fs,bad⟩:=p;cases fs with
 |nil=>
  obtain⟨A,c,c0⟩:=h.rest0;have H:=hid h;clear h;go_enter Tryz.func186,Tryz.ntmps186;go_wp2;go_ret;exact⟨rfl,H.out,World.grownBy.refl _ _⟩
 |cons f r=>
  obtain⟨g,o,c,hv,hf,hc,hm,hpop⟩:=WSt.popped h;have c0:w.cell? ⟨b,0,none⟩=some (.slice (some ⟨g,o,none⟩) (r.length+1) c):=by rw[Lib.cell_of_heap hv];rfl
  have f0:w.frozen? ⟨b,0,none⟩=false:=Lib.frozen_of_heap hv 0;have HP:=hid hpop;have H:=hid h;have E:=hid (isW_cons (f:=f) (x:=x) (r:=r) (bad:=bad));have qn:((str f).toList==(str x).toList)=(f==x):=by rw[zAe,zAe]
  clear hv hpop h;unfold strV at hf;unfold maxLen at hm;have EO:Hid (optS x ⟨f :: r,bad⟩=if f==x then⟨r,bad⟩else⟨f :: r,bad⟩):=hid (by unfold optS;rw[E.out];rfl);cases hx:(f==x)with
  |false=>
   rw[hx]at qn;go_enter Tryz.func186,Tryz.ntmps186;go_wp2;go_ret;exact⟨zAg (by rw[E.out,hx]),by rw[EO.out,hx];exact H.out,World.grownBy.refl _ _⟩
  |true=>
   rw[hx]at qn;go_enter Tryz.func186,Tryz.ntmps186;go_wp2_with fail
   ·go_ret
    have q:=HP.out (some ⟨g,o,none⟩) (fun h' => absurd (by assumption) h') (by simp);rw[show c - 1=0 from by omega]at q;obtain⟨q1,q2⟩:=q;exact⟨zAg (by rw[E.out,hx]),by rw[EO.out,hx];exact q1,q2⟩
   ·go_ret
    obtain⟨q1,q2⟩:=HP.out (some ⟨g,o+1,none⟩) (fun _=>rfl) (by simp);exact⟨zAg (by rw[E.out,hx]),by rw[EO.out,hx];exact q1,q2⟩
theorem zIw(b B:Nat)(p:Ps)(w:World)(h:WSt 185 b B p w):Calls Tryz.prog 147 #[.pointer (some ⟨b,0,none⟩)] w fun e w' => e=.returned (.bool (doneB p))∧w=w' := by
 obtain⟨fs,bad⟩:=p;obtain⟨A,c,c0⟩:=h.rest0;have c1:=h.bad1;clear h;have E:Hid (doneB ⟨fs,bad⟩=(!bad&&fs.isEmpty)):=hid rfl;dsimp only at c0 c1;cases bad with
 |true=>
  go_enter Tryz.func147,Tryz.ntmps147;go_wp2;go_ret;exact⟨zAg (by rw[E.out];rfl),rfl⟩
 |false=>
  cases fs with
  |nil=>
   go_enter Tryz.func147,Tryz.ntmps147;go_wp2;go_ret;exact⟨zAg (by rw[E.out];rfl),rfl⟩
  |cons f r=>
   simp only[List.length_cons]at c0;go_enter Tryz.func147,Tryz.ntmps147;go_wp2;go_ret;exact⟨zAg (by rw[E.out];first|rfl|(simp;done)|(simp;omega)),rfl⟩
def WDone(T:TypeId)(b B:Nat)(p' : Ps)(w:World)(e:Ending)(w' : World):Prop:=e=.returned (.tuple #[])∧WSt T b B p' w' ∧ w.grownBy w' (some b)
theorem zFb(b B:Nat)(p:Ps)(ok:Bool)(w:World)(h:WSt 185 b B p w):Calls Tryz.prog 185 #[.pointer (some ⟨b,0,none⟩),.bool ok] w (WDone 185 b B (mustS ok p) w):=by
 have f1:=h.frz 1;have c1:=h.bad1;have HF:=hid h.failed;have H:=hid h;clear h;cases ok with
 |true=>
  go_enter Tryz.func185,Tryz.ntmps185;go_wp2_with fail;go_end0;exact⟨rfl,H.out,World.grownBy.refl _ _⟩
 |false=>
  go_enter Tryz.func185,Tryz.ntmps185;go_wp2_with fail;go_end0;exact⟨rfl,HF.out.1,HF.out.2⟩
end Go.Proofs.YthcnojmldldpeaaGreatDoor
