/- A region whose order is drawn and whose first operation is a move that nothing waits for till the end: it comes first; then as XSched. Condition: S holds ahead of the region. -/
import Derived.Test.YthcnojmldldpeaaGreatDoorGv
namespace Go.Proofs.YthcnojmldldpeaaGreatDoor
section
variable {P : Program} {ops : Array Oper} {Q : Exit → Act → World → Prop} {S : World → Prop}
def opsAt(ops:Array Oper):List Nat→List Oper
 |[]=>[]
 |k :: r=>match ops[k]? with
  |some o=>o :: opsAt ops r
  |none=>opsAt ops r
def listA:List Nat→Array Bool→Array Bool
 |[],l=>l
 |k :: r,l=>listA r (l.setIfInBounds k true)
def schedA(ops:Array Oper)(L:Array Bool):List Nat→Array Bool→Bool
 |[],l=>l==L
 |k :: r,l=>(ops[k]?).isSome&&Region.free .any ops l k&&(Region.ready .any ops l).contains k&&downB ops l &&
   ((Region.ready .any ops L).all fun j=>((List.range ops.size).any fun c=>c != k&&L.getD c false&&waitsB ops c k)||waitsB ops j k)&&schedA ops L r (l.setIfInBounds k true)
def schedB(ops:Array Oper):List Nat→Array Bool→Bool
 |[],l=>(Region.ready .any ops l).isEmpty
 |k :: r,l=>(ops[k]?).isSome&&(Region.ready .any ops l==[k])&&schedB ops r (l.setIfInBounds k true)
theorem sched_fix{L:Array Bool}{K:Act→Prop}(hn:Region.noSelect ops=true):∀(A:List Nat) (l:Array Bool) (a:Act),schedA ops L A l=true→SeqT P ops S K (opsAt ops A) a→FixT P ops S L K A.length l a
 |[],l,a,hc,h=>⟨by simpa [schedA] using hc,h⟩
 |k :: r,l,a,hc,h=>by
  simp only[schedA,Bool.and_eq_true]at hc;obtain⟨⟨⟨⟨⟨h1,h2⟩,h3⟩,h4⟩,h5⟩,h6⟩:=hc;obtain⟨o,ho⟩:=Option.isSome_iff_exists.1 h1;simp only[opsAt,ho]at h;obtain⟨v,hg,hr⟩:=h;refine FixT.first ho (Region.noSelect_spec hn) (fun j hj=>?_) r.length l a (downB_spec h4) (Region.free_spec ho h2) (by simpa using h3) hg (sched_fix hn r _ _ h6 hr);have q:=List.all_eq_true.1 h5 j hj;rw[Bool.or_eq_true]at q;rcases q with q|q
  ·obtain⟨c,-,hc⟩:=List.any_eq_true.1 q
   simp only[Bool.and_eq_true,bne_iff_ne]at hc;obtain⟨oc,e,hoc,he,hb,heq⟩:=zGn hc.2;exact .inl ⟨c,oc,e,hc.1.1,hoc,hc.1.2,he,hb,heq⟩
  ·exact .inr (zGn q)
theorem sched_tail:∀(B:List Nat) (l:Array Bool) (a:Act) (w:World),schedB ops B l=true→wpList P ops Q (opsAt ops B) a w→wpAny P .any ops Q B.length l a w
 |[],l,a,w,hc,h=>⟨by simpa [schedB] using hc,h⟩
 |k :: r,l,a,w,hc,h=>by
  simp only[schedB,Bool.and_eq_true,beq_iff_eq]at hc;obtain⟨⟨h1,h2⟩,h3⟩:=hc;obtain⟨o,ho⟩:=Option.isSome_iff_exists.1 h1;simp only[opsAt,ho]at h;refine⟨fun he=>(by rw[h2]at he;cases he),fun i hi=>?_⟩;rw[h2]at hi;obtain rfl:=List.mem_singleton.1 hi;have hI:∀a w,wpList P ops Q (opsAt ops r) a w→wpAny P .any ops Q r.length (l.setIfInBounds i true) a w:=fun a w h=>sched_tail r _ a w h3 h
  unfold wpList at h;unfold Go.wpOp;simp only[ho];split at h
  ·rename_i hw
   rw[if_pos hw];exact h.imp (Oper.wp_mono hI) id
  ·rename_i hw
   rw[if_neg hw];exact hI _ _ h
theorem SeqT.imp{K K' : Act→Prop}(hk:∀a,K a→K' a):∀(l:List Oper) (a:Act),SeqT P ops S K l a→SeqT P ops S K' l a
 |[],a,h=>hk a h
 |_ :: r,a,h=>by obtain⟨v,hg,hr⟩:=h;exact⟨v,hg,SeqT.imp hk r _ hr⟩
end
section
variable {P : Program} {ops : Array Oper} {Q : Exit → Act → World → Prop}
def sched0(ops:Array Oper)(A B:List Nat)(l:Array Bool):Bool:=Region.noSelect ops&&Region.free .any ops (Array.replicate ops.size false) 0&&(Region.ready .any ops (Array.replicate ops.size false)).contains 0 &&
 schedA ops (listA A l) A l&&schedB ops B (listA A l)&&Nat.beq (A.length+B.length+1) ops.size
theorem zBt{id:Nat}{a:Act}{w:World}(S:World→Prop)(A B:List Nat)(hm:P.follows .mixedOrders=true){o:Oper}{v:Value}(ho:ops[0]? = some o)(hc:sched0 ops A B ((Array.replicate ops.size false).setIfInBounds 0 true)=true)(hS:S w.drew)
  (hQ:∀c a w,Q (.panic c) (a.put o.dst v) w→Q (.panic c) a w) (hw:Region.wanted o (yielded ops a.tmps)=true) (hv:∀w,(execOp a.eval o).run P w=.ok (.value v) w)
  (h:SeqT P ops S (fun a=>∀w,S w→wpList P ops Q (opsAt ops B) a w) (opsAt ops A) (a.put o.dst v)):(Code.region id ops true).wp P Q a w:=by
 simp only[sched0,Bool.and_eq_true]at hc;obtain⟨⟨⟨⟨⟨h1,h2⟩,h3⟩,h4⟩,h5⟩,h6⟩:=hc;have:=FixT.wpAny (Q:=Q) (m:=B.length) A.length _ (a.put o.dst v) w.drew (sched_fix h1 A _ _ h4 (SeqT.imp (fun a h w hS=>sched_tail B _ a w h5 (h w hS)) _ _ h)) hS;have h7:=wpAny_take ho h1 h2 h3 hQ (.inl ⟨hw,hv⟩) this;rw[Nat.eq_of_beq_eq_true h6]at h7;exact wp_region_any hm h7
end
end Go.Proofs.YthcnojmldldpeaaGreatDoor
