/- The walks of Len and String on a strings.Builder that is the first field of a struct. Condition of String: it holds at least one byte. -/
import Derived.Test.YthcnojmldldpeaaGreatDoorGo
set_option maxHeartbeats 2000000
set_option maxRecDepth 100000
namespace Go.Proofs.YthcnojmldldpeaaGreatDoor
open Lib (hid)
open Go.RowKit
theorem Tryz.sizeBuilder:(Tryz.prog.info? 61).map (·.size)=some 2:=by kernel_rfl
theorem Tryz.infoByte:(Tryz.prog.info? 5).map (fun i=>(i.zero,i.size,i.bytes))=some (some (.int .u8 0),1,1):=by kernel_rfl
structure HoldsB (T:TypeId) (n:Nat):Prop where
 lies:liesAt Tryz.prog Tryz.prog.depth T (n / Tryz.prog.cellsOf T) 0 61 1=true
 ne:T≠5
structure FK (g:Nat) (w w' : World):Prop where
 os:w'.os=w.os
 tape:w'.tape=w.tape
 output:w'.output=w.output
 size:w.heap.size≤w'.heap.size
 low:∀k,k<w.heap.size→k<g→w'.heap[k]? = w.heap[k]?
 high:∀k,k<w.heap.size→k≠g→(∀cs fr,w.heap[k]?≠some (.cells cs 5 fr))→w'.heap[k]? = w.heap[k]?
section
variable {g : Nat} {w w' w'' : World}
theorem FK.refl(g:Nat)(w:World):FK g w w:=⟨rfl,rfl,rfl,Nat.le_refl _,fun _ _ _=>rfl,fun _ _ _ _=>rfl⟩
theorem FK.trans(h:FK g w w')(h' : FK g w' w''):FK g w w'' :=
 ⟨h'.os.trans h.os,h'.tape.trans h.tape,h'.output.trans h.output,Nat.le_trans h.size h'.size,fun k hk hg=>(h'.low k (Nat.lt_of_lt_of_le hk h.size) hg).trans (h.low k hk hg),
  fun k hk hg hn=>(h'.high k (Nat.lt_of_lt_of_le hk h.size) hg (by rw[h.high k hk hg hn];exact hn)).trans (h.high k hk hg hn)⟩
theorem FK.of_below(h:Below w.heap.size w w'):FK g w w' := ⟨h.os,h.tape,h.output,h.size,fun k hk _=>h.block k hk,fun k hk _ _=>h.block k hk⟩
theorem FK.set(w:World)(g j:Nat)(v:Value):FK g w (w.setCell ⟨g,j,none⟩ v) :=
 have h:=zDi w g j v
 ⟨h.os,h.tape,h.output,h.size,fun k hk hg=>h.block k hk (fun e=>by cases e;exact absurd hg (Nat.lt_irrefl _)),fun k hk hg _=>h.block k hk (fun e=>hg (by cases e;rfl))⟩
theorem FK.row{v:Value}{n:Nat}{xs:List Value}(hown:w.ownsRow g 5 1 v n xs)(h:w.grownBy w' v.ownBlock):FK g w w' := by
 refine⟨h.os,h.tape,h.output,h.size,fun k hk hg=>h.block k hk fun e=>?_,fun k hk hg hn=>h.block k hk fun e=>?_⟩
 ·have:=(hown.lt k e.symm).1;omega
 ·rcases hown.2 with⟨rfl,_⟩|⟨b,cap,cur,rfl,_,hb,_⟩
  ·cases e
  ·simp only[Value.ownBlock,Option.some.injEq]at e
   subst e;exact hn _ _ hb
theorem FK.below(h:FK g w w')(hg:g≤w.heap.size):Below g w w' := ⟨h.os,h.tape,h.output,h.size,fun k hk=>h.low k (by omega) hk⟩
theorem HasC.fk{T:TypeId}{b:Nat}{cs:Array Value}(h:HasC T b cs w)(hf:FK g w w')(hb:b≠g)(hT:T≠5):HasC T b cs w' :=
 (hf.high b (zCv h) hb fun cs' fr e=>by rw[h]at e;injection e with e;injection e with _ e _;exact hT e).trans h
end
def FBx(T:TypeId)(rest:List Value)(g:Nat)(s:List UInt8)(w:World):Prop :=
 ∃p v,(p=.pointer none∨p=.pointer (some ⟨g,0,none⟩))∧HasC T g (p :: v :: rest).toArray w∧w.ownsRow g 5 1 v s.length (Lib.byteCells s)
def FBu(T:TypeId)(rest:List Value)(g:Nat)(s:List UInt8)(w:World):Prop :=
 ∃v,HasC T g (.pointer (some ⟨g,0,none⟩) :: v :: rest).toArray w∧w.ownsRow g 5 1 v s.length (Lib.byteCells s)
theorem FBu.x{T:TypeId}{rest:List Value}{g:Nat}{s:List UInt8}{w:World}(h:FBu T rest g s w):FBx T rest g s w:=by
 obtain⟨v,h1,h2⟩:=h;exact⟨_,v,.inr rfl,h1,h2⟩
theorem HasC.set{T:TypeId}{g:Nat}{cs:Array Value}{w:World}(h:HasC T g cs w)(j:Nat)(v:Value):HasC T g (cs.setIfInBounds j v) (w.setCell ⟨g,j,none⟩ v):=by
 unfold HasC at h⊢;simp[World.setCell,Array.getElem?_modify,h]
theorem row_set{T:TypeId}{g j n:Nat}{cs:Array Value}{w:World}{v u:Value}{xs:List Value}(h:HasC T g cs w)(hown:w.ownsRow g 5 1 v n xs)(hT:T≠5):(w.setCell ⟨g,j,none⟩ u).ownsRow g 5 1 v n xs :=
 hown.kept (row:=some g) ⟨rfl,rfl,rfl,by simp[World.setCell],fun k _ hk=>Below.heap_setCell _ _ _ _ (fun e=>hk (by simp[e]))⟩ (Or.inr (Lib.ownBlock_ne hown h hT))
theorem FBx.keep{T:TypeId}{rest:List Value}{g:Nat}{s:List UInt8}{w w' : World}(h:FBx T rest g s w)(hb:Below w.heap.size w w'):FBx T rest g s w' := by
 obtain⟨p,u,hp,hc,ho⟩:=h;refine⟨p,u,hp,hc.keep hb,ho.kept (row:=none) (zFm (Nat.le_refl _) hb none) ?_⟩;cases u.ownBlock with
 |none=>exact Or.inl rfl
 |some k=>exact Or.inr (fun h=>by cases h)
section
variable {T : TypeId} {rest : List Value} {g : Nat} {s : List UInt8} {w : World}
theorem bxCheck_any(hT:HoldsB T (rest.length+2))(h:FBx T rest g s w) :
  Calls Tryz.prog 94 #[.pointer (some ⟨g,0,none⟩)] w fun e w' => e=.returned (.tuple #[])∧FBu T rest g s w' ∧ FK g w w' := by
 obtain⟨j,hj,hjs⟩:=Option.map_eq_some_iff.1 Tryz.sizeBuilder;obtain⟨p,v,hp,hc,hown⟩:=h;rcases hp with rfl|rfl
 ·have h0:w.cell? ⟨g,0,none⟩=some (.pointer none):=by rw[hc.cell];rfl
  have hfz:w.frozen? ⟨g,0,none⟩=false:=hc.frz 0;have hsh:w.shape? g=some (T,rest.length+2):=by unfold World.shape?;rw[show w.heap[g]? = _ from hc];simp
  have HR:Hid (FBu T rest g s (w.setCell ⟨g,0,none⟩ (.pointer (some ⟨g,0,none⟩)))∧FK g w (w.setCell ⟨g,0,none⟩ (.pointer (some ⟨g,0,none⟩)))) :=
   hid ⟨⟨v,by simpa using hc.set 0 (.pointer (some ⟨g,0,none⟩)),row_set hc hown hT.ne⟩,FK.set w g 0 _⟩
  have HT:=hid hT;clear hc hown hT;go_enter Tryz.func94,Tryz.ntmps94;go_wp2;rw[Lib.run_to_unsafe w ⟨g,0,none⟩ Tryz.underlying58 Tryz.underlying180 hj (by rw[hjs];decide) hsh (Nat.zero_lt_succ _)];simp only[Result.andThen];rw[Oper.upon_value];go_wp2;rw[run_callFunc_extern Tryz.func133 (by kernel_rfl) (by kernel_rfl) (by kernel_rfl) (e:=Extern.AbiNoEscape.same) (by kernel_rfl)];rw[Lib.run_noEscape];simp only[Result.andThen];rw[Oper.upon_value];go_wp2;rw[Lib.run_from_unsafe w ⟨g,0,none⟩ Tryz.underlying180 Tryz.underlying58 hj hsh HT.out.lies];simp only[Result.andThen];rw[Oper.upon_value];go_wp2;go_end0;exact⟨rfl,HR.out⟩
 ·have h0:w.cell? ⟨g,0,none⟩=some (.pointer (some ⟨g,0,none⟩)):=by rw[hc.cell];rfl
  have HR:Hid (FBu T rest g s w):=hid ⟨v,hc,hown⟩;clear hc hown hT;go_enter Tryz.func94,Tryz.ntmps94;go_wp2;rw[Lib.run_neq_ptr_same w _ Tryz.underlying58 hj];go_wp2;go_end0;exact⟨rfl,HR.out,FK.refl _ _⟩
theorem zJg(hT:HoldsB T (rest.length+2))(h:FBx T rest g s w)(c:UInt8)(hlen:s.length+1≤140737488355328)(hg:g≤w.heap.size) :
  Calls Tryz.prog 38 #[.pointer (some ⟨g,0,none⟩),.int .u8 c.toNat] w fun e w' => e=.returned .nilIface∧FBu T rest g (s++[c]) w' ∧ FK g w w' := by
 obtain⟨i0,hi,hz0,hz1,hz2⟩:=info_parts Tryz.infoByte;go_enter Tryz.func38,Tryz.ntmps38;go_wp2_with fail;refine(bxCheck_any hT h).mono ?_;rintro e w1 ⟨rfl,⟨v,hc,hown⟩,hk⟩;have c0:w1.cell? ⟨g,0,none⟩=some (.pointer (some ⟨g,0,none⟩)):=by rw[hc.cell];rfl
 have c1:w1.cell? ⟨g,1,none⟩=some v:=by rw[hc.cell];rfl
 have hs:=hk.size;go_wp2_with (at_builtin;refine wpList_append_own _ rfl _ _ 59 rfl g 5 i0 (.int .u8 0) 1 1 Tryz.underlying59 hi hz0 hz1 hz2 rfl (by decide) _ _ _ rfl (hown.alloc _) ⟨w1.heap.size,0,none⟩ 1 1 [.int .u8 c.toNat] rfl rfl ?c1 ?c2 ?c3 ?c4 ?c5 ?_);case c1=>
  intro j u hj
  match j,hj with
  |0,hj=>simp at hj;subst hj;simp[Addr.add]
 case c2=>intro u hu;simp at hu;subst hu;rfl
 case c3=>unfold maxLen;omega
 case c4=>omega
 case c5=>simp;omega
 intro v' w2 hown' hgrow _;have hk2:FK g (w1.alloc (.cells #[.int .u8 c.toNat] 5)) w2:=FK.row (hown.alloc _) hgrow
 have hc2:HasC T g (.pointer (some ⟨g,0,none⟩) :: v :: rest).toArray w2:=by
  refine(hgrow.block g (by have:=zCv hc;simp;omega) (fun e=>Lib.ownBlock_ne hown hc hT.ne e.symm)).trans ?_;rw[Lib.alloc_old w1 _ g (zCv hc)];exact hc
 have d1:w2.cell? ⟨g,1,none⟩=some v:=by rw[hc2.cell];rfl
 have f1:w2.frozen? ⟨g,1,none⟩=false:=hc2.frz 1
 obtain⟨b,cap,rfl⟩:∃b cap,v' = .slice (some ⟨b,0,none⟩) (s.length+1) cap:=by
  rcases hown'.2 with⟨_,h0⟩|⟨b,cap,cur,hv,_⟩
  ·omega
  ·exact⟨b,cap,hv⟩
 go_wp2;go_ret;refine⟨rfl,⟨_,by simpa using hc2.set 1 _,?_⟩,((hk.trans (FK.of_below ((Below.refl _ _).alloc (Nat.le_refl _) _))).trans hk2).trans (FK.set _ _ _ _)⟩;have:=row_set (j:=1) (u:=.slice (some ⟨b,0,none⟩) (s.length+1) cap) hc2 hown' hT.ne;simpa [Lib.byteCells] using this
theorem zJu(hT:HoldsB T (rest.length+2))(h:FBx T rest g s w)(l:List UInt8)(hlen:s.length+l.length≤140737488355328)(hg:g≤w.heap.size) :
  Calls Tryz.prog 39 #[.pointer (some ⟨g,0,none⟩),.string (str l)] w fun e w' => e=.returned (.tuple #[.int .i64 l.length,.nilIface])∧FBu T rest g (s++l) w' ∧ FK g w w' := by
 obtain⟨i0,hi,hz0,hz1,hz2⟩:=info_parts Tryz.infoByte;have hsz:(str l).size=l.length:=zBx l;go_enter Tryz.func39,Tryz.ntmps39;go_wp2_with fail;refine(bxCheck_any hT h).mono ?_;rintro e w1 ⟨rfl,⟨v,hc,hown⟩,hk⟩;have c0:w1.cell? ⟨g,0,none⟩=some (.pointer (some ⟨g,0,none⟩)):=by rw[hc.cell];rfl
 have c1:w1.cell? ⟨g,1,none⟩=some v:=by rw[hc.cell];rfl
 have hs:=hk.size;go_wp2_with (at_builtin;refine Lib.wpList_append_own_string _ rfl _ _ 59 9 rfl g 5 i0 Tryz.underlying59 Tryz.underlying9 hi hz0 hz1 hz2 _ _ _ rfl hown (str l) rfl ?c3 ?c4 ?c5 ?_);case c3=>unfold maxLen;omega
 case c4=>omega
 case c5=>omega
 intro v' w2 hown' hgrow _;have hk2:FK g w1 w2:=FK.row hown hgrow;have hc2:HasC T g (.pointer (some ⟨g,0,none⟩) :: v :: rest).toArray w2:=(hgrow.block g (zCv hc) (fun e=>Lib.ownBlock_ne hown hc hT.ne e.symm)).trans hc;have d1:w2.cell? ⟨g,1,none⟩=some v:=by rw[hc2.cell];rfl
 have f1:w2.frozen? ⟨g,1,none⟩=false:=hc2.frz 1
 obtain⟨ao,n', cap,rfl⟩:∃ao n' cap,v' = .slice ao n' cap:=by
  rcases hown'.2 with⟨hv,_⟩|⟨b,cap,cur,hv,_⟩
  ·exact⟨_,_,_,hv⟩
  ·exact⟨_,_,_,hv⟩
 go_wp2;go_ret2;refine⟨rfl,⟨_,by simpa using hc2.set 1 _,?_⟩,(hk.trans hk2).trans (FK.set _ _ _ _)⟩;have:=row_set (j:=1) (u:=.slice ao n' cap) hc2 hown' hT.ne;simpa [Lib.byteCells,Lib.strCells,str] using this
end
section
variable {T : TypeId} {rest : List Value} {g : Nat} {s : List UInt8} {w : World}
theorem bxLen_any(h:FBx T rest g s w):Calls Tryz.prog 17 #[.pointer (some ⟨g,0,none⟩)] w fun e w' => e=.returned (.int .i64 s.length)∧w' = w:=by
 obtain⟨p,v,-,hc,hown⟩:=h
 obtain⟨ao,cap,rfl⟩:∃ao cap,v=.slice ao s.length cap:=by
  rcases hown.2 with⟨hv,h0⟩|⟨b,cap,cur,hv,_⟩
  ·exact⟨none,0,by rw[hv,h0]⟩
  ·exact⟨_,_,hv⟩
 have c1:w.cell? ⟨g,1,none⟩=some (.slice ao s.length cap):=by rw[hc.cell];rfl
 clear hc hown;go_enter Tryz.func17,Tryz.ntmps17;go_wp2;go_ret;exact⟨rfl,rfl⟩
theorem bytePtr:Tryz.prog.underlying 120=some (.pointer 5):=by kernel_rfl
theorem byteCell:Tryz.prog.cellsOf 5=1:=by kernel_rfl
theorem bxStr_any(h:FBx T rest g s w)(h0:s≠[]):Calls Tryz.prog 18 #[.pointer (some ⟨g,0,none⟩)] w fun e w' => e=.returned (.string (str s))∧Below g w w' := by
 obtain⟨p,v,-,hc,hown⟩:=h;have hl0:s.length≠0:=by simpa using h0
 obtain⟨b,cap,cur,rfl,hgb,hb,hnc,hcm,hcs,htake⟩:∃b cap cur,v=.slice (some ⟨b,0,none⟩) s.length cap∧g≤b∧w.heap[b]? = some (.cells cur 5 (0,0))∧s.length≤cap∧cap≤maxLen∧cur.size=cap*1∧cur.toList.take (s.length*1)=Lib.byteCells s:=by
  rcases hown.2 with⟨_,hz⟩|⟨b,cap,cur,hv,r⟩
  ·exact absurd hz hl0
  ·exact⟨b,cap,cur,hv,r⟩
 have c1:w.drew.cell? ⟨g,1,none⟩=some (.slice (some ⟨b,0,none⟩) s.length cap):=by
  show w.cell? _=_;rw[hc.cell];rfl
 have hSD:(Builtin.unsafeSliceData_ #[59] 120 #[.slice (some ⟨b,0,none⟩) s.length cap]).run Tryz.prog w.drew=.ok (.pointer (some ⟨b,0,none⟩)) w.drew :=
  Lib.run_unsafeSliceData_row _ _ _ _ _ _ (by omega)
 have hUS:(Builtin.unsafeString_ #[120,3] 9 #[.pointer (some ⟨b,0,none⟩),.int .i64 s.length]).run Tryz.prog w.drew=.ok (.string (str s)) (w.drew.freeze ⟨b,0,none⟩ s.length):=by
  refine Lib.run_unsafeString_row w.drew 120 3 9 5 bytePtr byteCell b cur.size (by have hg' : w.drew.heap[b]? = some (.cells cur 5 (0,0)):=hb;simp[World.shape?,hg']) s h0 (by omega) (by unfold maxLen at hcm;omega) ?_;intro j x hx;have:=hown.cells (g:=b) rfl j (.int .u8 x.toNat) (by simp[Lib.byteCells,hx]);exact this
 clear hc hown hb htake;have mixed:Tryz.prog.follows .mixedOrders=true:=by kernel_rfl
 go_enter Tryz.func18,Tryz.ntmps18;go_wp2_with fail
 go_region_o
 all_goals (go_wp2_with fail;go_ret;exact⟨rfl,Lib.below_freeze (Below.drew (Below.refl g w)) (p:=⟨b,0,none⟩) hgb _⟩)
end
end Go.Proofs.YthcnojmldldpeaaGreatDoor
