/- A map of strings to bools as the list of its keys: made, read, written. Conditions: a key is no longer than a string may be. -/
import Derived.Test.YtdlgnhefpoalnaaGreatDoorLa
namespace Go.Proofs.YtdlgnhefpoalnaaGreatDoor
open Lib (hid)
open Go.RowKit Go.Maps
def KeyMap(P:Program)(k e:TypeId)(b n:Nat)(ks:List (List UInt8))(w:World):Prop :=
 ∃D:DataW Unit,w.ownsMap P k (plainElem P e) b n D∧IsMap D∧∀l:List UInt8,D.atKey (.string l) (.lit (.bool false))=.lit (.bool (ks.contains l))
section
variable {P : Program} {k e : TypeId} {b n : Nat} {ks : List (List UInt8)} {w w' : World}
theorem KeyMap.made(w:World)(P:Program)(k e:TypeId):KeyMap P k e w.heap.size 0 [] (w.alloc (.map #[] 0)) :=
 ⟨.map [],World.ownsMap_made _ _ _ _,isMap_empty,fun _=>rfl⟩
theorem zLa{H:Type}(he:P.underlying e=some .bool){v:Value}{z:DataW H × List MemPlace}(h:plainElem P e v=some z):∃x:Bool,v=.bool x∧z=(.lit (.bool x),[]):=by
 unfold plainElem at h;rw[he]at h;cases v<;>simp at h
 exact⟨_,rfl,h.symm⟩
theorem str_key(l:List UInt8):(str l).data.toList=l:=zBk l
theorem zFi{ops:Array Oper}{rest:List Oper}{o:Oper}{a:Act}{Q:Exit→Act→World→Prop}(w:World)
  (hg:o.guard=none) (m x:Operand) (t:TypeId) (hop:o.op=Op.lookup t m x false)
  (k e:TypeId) (hk:P.underlying k=some .string) (ht:P.underlying t=some (.map k e)) (he:P.underlying e=some .bool) (hz:(zeroValue e).run P w=.ok (.bool false) w) (b n:Nat) (ks:List (List UInt8))
  (hm:a.eval m=.map (some b)) (hown:KeyMap P k e b n ks w) (l:List UInt8) (hx:a.eval x=.string (str l)) (hl:l.length≤maxLen)
  (h:wpList P ops Q rest (a.put o.dst (.bool (ks.contains l))) w):wpList P ops Q (o :: rest) a w:=by
 refine wpList_plain hg fun K' hK' => ?_
 obtain⟨D,hD,-,hat⟩:=hown;have hkey:keyOf P k (.string (str l))=some (.string (str l).data.toList):=WideMaps.keyOf_string_mk hk (by rw[zBa];exact hl);rw[str_key]at hkey;obtain⟨v,ps,hrun,hv⟩:=hD.lookup (string_keyed hk) ht hz (plainElem_bool he false) hkey;obtain⟨c,rfl,hc⟩:=zLa he hv;simp only[Prod.mk.injEq]at hc;have hcc:=hat l;rw[hc.1]at hcc;simp only[DataW.lit.injEq,Lit.bool.injEq]at hcc;subst hcc;unfold Oper.wp;simp[execOp,hop,hm,hx,hrun,Result.andThen];exact hK' _ _ (by simpa using h)
theorem zFz{ops:Array Oper}{rest:List Oper}{o:Oper}{a:Act}{Q:Exit→Act→World→Prop}(w:World)
  (hg:o.guard=none) (m x v:Operand) (t:TypeId) (hop:o.op=Op.mapUpdate t m x v)
  (k e:TypeId) (hk:P.underlying k=some .string) (ht:P.underlying t=some (.map k e)) (he:P.underlying e=some .bool) (b n:Nat) (ks:List (List UInt8))
  (hm:a.eval m=.map (some b)) (hown:KeyMap P k e b n ks w) (hn:n<maxLen) (l:List UInt8) (hx:a.eval x=.string (str l)) (hv:a.eval v=.bool true) (hl:l.length≤maxLen)
  (h:∀w', KeyMap P k e b (n+1) (l :: ks) w' → w.grownBy w' (some b)→wpList P ops Q rest (a.put o.dst undef) w'):wpList P ops Q (o :: rest) a w:=by
 obtain⟨D,hD,hM,hat⟩:=hown;have hkey:keyOf P k (.string (str l))=some (.string (str l).data.toList):=WideMaps.keyOf_string_mk hk (by rw[zBa];exact hl);rw[str_key]at hkey;refine wpList_mapUpdate_own w hg m x v t hop k e (string_keyed hk) ht (plainElem P e) b n D hm hD hn _ _ _ hx hv hkey _ [] (plainElem_bool he true) (fun w' h1 h2=>h w' ⟨_,h1,hM.put _ _,fun l' => ?_⟩ h2);by_cases hll:l' = l
 ·subst hll
  rw[atKey_put_same hM (show WideAt.IsKeyLit (.string l')from by trivial)];simp
 ·rw[atKey_put_other (fun e=>hll (by injection e)),hat l', List.contains_cons,show(l' == l)=false from by simpa using hll,Bool.false_or]
end
end Go.Proofs.YtdlgnhefpoalnaaGreatDoor
