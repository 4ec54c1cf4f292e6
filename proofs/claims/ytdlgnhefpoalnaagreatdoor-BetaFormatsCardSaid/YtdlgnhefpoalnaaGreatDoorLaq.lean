/- A region whose order is drawn and whose first operation is a move that nothing waits for till the end: it comes first; then as XSched. Condition: S holds ahead of the region. -/
import Derived.Test.YtdlgnhefpoalnaaGreatDoorLac
namespace Go.Proofs.YtdlgnhefpoalnaaGreatDoor
section
variable {P : Program} {ops : Array Oper} {Q : Exit → Act → World → Prop}
def sched0(ops:Array Oper)(A B:List Nat)(l:Array Bool):Bool:=Region.noSelect ops&&Region.free .any ops (Array.replicate ops.size false) 0&&(Region.ready .any ops (Array.replicate ops.size false)).contains 0 &&
 schedA ops (listA A l) A l&&schedB ops B (listA A l)&&Nat.beq (A.length+B.length+1) ops.size
theorem zCm{id:Nat}{a:Act}{w:World}(S:World→Prop)(A B:List Nat)(hm:P.follows .mixedOrders=true){o:Oper}{v:Value}(ho:ops[0]? = some o)(hc:sched0 ops A B ((Array.replicate ops.size false).setIfInBounds 0 true)=true)(hS:S w.drew)
  (hQ:∀c a w,Q (.panic c) (a.put o.dst v) w→Q (.panic c) a w) (hw:Region.wanted o (yielded ops a.tmps)=true) (hv:∀w,(execOp a.eval o).run P w=.ok (.value v) w)
  (h:SeqT P ops S (fun a=>∀w,S w→wpList P ops Q (opsAt ops B) a w) (opsAt ops A) (a.put o.dst v)):(Code.region id ops true).wp P Q a w:=by
 simp only[sched0,Bool.and_eq_true]at hc;obtain⟨⟨⟨⟨⟨h1,h2⟩,h3⟩,h4⟩,h5⟩,h6⟩:=hc;have:=FixT.wpAny (Q:=Q) (m:=B.length) A.length _ (a.put o.dst v) w.drew (sched_fix h1 A _ _ h4 (SeqT.imp (fun a h w hS=>zLm B _ a w h5 (h w hS)) _ _ h)) hS;have h7:=wpAny_take ho h1 h2 h3 hQ (.inl ⟨hw,hv⟩) this;rw[Nat.eq_of_beq_eq_true h6]at h7;exact wp_region_any hm h7
end
end Go.Proofs.YtdlgnhefpoalnaaGreatDoor
