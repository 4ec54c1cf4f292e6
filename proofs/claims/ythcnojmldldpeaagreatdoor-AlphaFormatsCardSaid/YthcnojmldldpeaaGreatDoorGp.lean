/- An argument that is a slice of rows of n cells each: what the walks are told of it; any element type. No condition. -/
import Derived.Test.YthcnojmldldpeaaGreatDoorGa
import Derived.Lib.SmallJoins
namespace Go.Proofs.YthcnojmldldpeaaGreatDoor
open Lib (hid)
open Go.RowKit Go.ChangeShapes Go.WideShapes Go.Deep
theorem zFq{α:Type}(cells:α→List Value){n:Nat}(hn:0<n)(hl:∀e,(cells e).length=n):∀(es:List α) (k:Nat),(es.flatMap cells)[k]? = (es[k / n]?).bind (fun e=>(cells e)[k % n]?)
 |[],k=>by simp
 |e :: es,k=>by
  rw[List.flatMap_cons];rcases Nat.lt_or_ge k n with h|h
  ·rw[List.getElem?_append_left (by rw[hl];exact h),Nat.div_eq_of_lt h,Nat.mod_eq_of_lt h]
   rfl
  ·rw[List.getElem?_append_right (by rw[hl];exact h),hl,zFq cells hn hl es (k - n)]
   have h1:k / n=(k - n) / n+1:=by rw[Nat.div_eq_sub_div hn h]
   have h2:k % n=(k - n) % n:=Nat.mod_eq_sub_mod h;rw[h1,h2];rfl
theorem zIk{α:Type}(cells:α→List Value){n:Nat}(hl:∀e,(cells e).length=n):∀(es:List α),(es.flatMap cells).length=es.length*n
 |[]=>by simp
 |e :: es=>by rw[List.flatMap_cons,List.length_append,hl,zIk cells hl es,List.length_cons,Nat.succ_mul];omega
section
variable {P : Program} {H : Type} {enc : TypeId × Value → H} {w : World} {base : Nat} {spare : Nat → Bool} {held : Bool}
theorem open_rows{T E:TypeId}{α:Type}(dflt:α)(cells:α→List Value)(ok:α→Prop){n:Nat}(hn:0<n)(hl:∀e,(cells e).length=n)(hu:P.underlying T=some (.slice E))(hC:P.cellsOf E=n)
  (hone:∀(fuel:Nat) (cs:List Value) (x:DataW H × List MemPlace),cs.length=n→DataW.trod enc P w base spare held fuel E cs=some x→∃e,cs=cells e∧ok e)
  {fuel:Nat} {a:Option Addr} {len cap:Nat} {x:DataW H × List MemPlace} (h:DataW.trod enc P w base spare held fuel T [.slice a len cap]=some x) :
  ∃es:List α,es.length=len∧len≤cap∧Slc w w.heap.size n (.slice a len cap) len (es.flatMap cells)∧∀e∈es,ok e:=by
 rcases open_slice hu h with⟨hcs,_⟩|⟨ad,l,c,m,k,D,Pl,hcs,_,hlc,hm,hmm,_,hi⟩
 ·simp only[List.cons.injEq,and_true,Value.slice.injEq]at hcs
  obtain⟨rfl,rfl,rfl⟩:=hcs;exact⟨[],rfl,Nat.le_refl _,Slc.nil,fun x hx=>by cases hx⟩
 ·simp only[List.cons.injEq,and_true,Value.slice.injEq]at hcs
  obtain⟨rfl,rfl,rfl⟩:=hcs;have hlm:len≤m:=by rw[hmm];split<;>omega
  have hex:∀i,i<len→∃e:α,(∀j u,(cells e)[j]? = some u→w.cell? (ad.add (i*n+j))=some u)∧ok e:=by
   intro i hil;obtain⟨cs', h1,h2⟩:=hi i (by omega);rw[hC]at h1;obtain⟨_,hcl,hat⟩:=World.cells?_some h1;obtain⟨e,rfl,hw⟩:=hone _ _ _ hcl h2;refine⟨e,fun j u hu=>?_,hw⟩
   have hj:j<n:=by
    rcases Nat.lt_or_ge j n with h|h
    ·exact h
    ·rw[List.getElem?_eq_none (by rw[hl];exact h)]at hu;cases hu
   rw[←Go.Deep.add_add,hat j hj,hu]
  obtain⟨F,hF⟩:∃F:Nat→α,∀i,i<len→(∀j u,(cells (F i))[j]? = some u→w.cell? (ad.add (i*n+j))=some u)∧ok (F i):=by
   refine⟨fun i=>if h:i<len then(hex i h).choose else dflt,fun i hil=>?_⟩;simp only[hil,dif_pos];exact(hex i hil).choose_spec
  have hlen:((List.range len).map F).length=len:=by simp
  refine⟨(List.range len).map F,hlen,hlc,⟨some ad,cap,rfl,by omega,by rw[zIk cells hl,hlen],fun h=>(by cases h),fun hp=>?_⟩,fun x hx=>?_⟩
  ·obtain⟨g,o,s⟩:=ad
   have c0:=(hF 0 hp).1 0 _ (List.getElem?_eq_getElem (by rw[hl];exact hn));have hs:s=none:=by simpa [Addr.add] using World.cell?_spot c0
   subst hs;refine⟨g,o,rfl,?_,fun j u hu=>?_⟩
   ·exact World.block_lt_of_cell? w _ (by simpa [Addr.add] using c0)
   ·rw[zFq cells hn hl]at hu
    have hjl:j / n<len:=by
     rcases Nat.lt_or_ge (j / n) len with h|h
     ·exact h
     ·rw[List.getElem?_eq_none (by rw[hlen];exact h)]at hu;cases hu
    rw[List.getElem?_eq_getElem (by rw[hlen];exact hjl)]at hu;have hg:((List.range len).map F)[j / n]'(by rw[hlen];exact hjl)=F (j / n):=by simp
    rw[hg]at hu;have:=(hF (j / n) hjl).1 (j % n) u hu;rw[addr_add,show j / n*n+j % n=j from by rw[Nat.mul_comm];exact Nat.div_add_mod j n]at this;exact this
  ·obtain⟨i,hi,rfl⟩:=List.mem_map.1 hx
   exact(hF i (List.mem_range.1 hi)).2
end
end Go.Proofs.YthcnojmldldpeaaGreatDoor
