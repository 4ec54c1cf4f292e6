/- The reference's writer of dialect Beta: line, open, close; a sum of strings in a walk. Condition: the text is at most 2^47 bytes. -/
import Derived.Test.YtdlgnhefpoalnaaGreatDoorLao
namespace Go.Proofs.YtdlgnhefpoalnaaGreatDoor
open Lib (hid)
open Go.RowKit
theorem add_run{P:Program}{o:Oper}{a:Act}{w:World}{T U:TypeId}{x y:Operand}(ho:o.op=.binOp .add T x y U){l m:List UInt8}(hx:a.eval x=.string (str l))(hy:a.eval y=.string (str m))(hl:l.length+m.length≤9223372036854775807) :
  (execOp a.eval o).run P w=.ok (.value (.string (str (l++m)))) w:=by
 have e:=run_cat hl;unfold cat at e;unfold execOp;rw[ho];simp only[hx,hy];simp[go_sem,e]
theorem zAf{P:Program}{ops:Array Oper}{rest:List Oper}{o:Oper}{a:Act}{w:World}{Q:Exit→Act→World→Prop}(hgd:o.guard=none){T U:TypeId}{x y:Operand}(ho:o.op=.binOp .add T x y U){l m:List UInt8}
  (hx:a.eval x=.string (str l)) (hy:a.eval y=.string (str m)) (hl:l.length+m.length≤9223372036854775807) (h:wpList P ops Q rest (a.put o.dst (.string (str (l++m)))) w):wpList P ops Q (o :: rest) a w :=
 Go.Great.wpList_readTo hgd _ rfl _ (add_run ho hx hy hl) h
theorem seq_add{P:Program}{ops:Array Oper}{Q:Exit→Act→World→Prop}{S:World→Prop}{o:Oper}{r:List Oper}{a:Act}{T U:TypeId}{x y:Operand}{l m:List UInt8}(hw:Region.wanted o (yielded ops a.tmps)=true)(ho:o.op=.binOp .add T x y U)
  (hx:a.eval x=.string (str l)) (hy:a.eval y=.string (str m)) (hl:l.length+m.length≤9223372036854775807) (h:Seq P ops Q S r (a.put o.dst (.string (str (l++m))))):Seq P ops Q S (o :: r) a:=zCk hw (fun _ _=>add_run ho hx hy hl) h
theorem zHu{P:Program}{ops:Array Oper}{S:World→Prop}{K:Act→Prop}{o:Oper}{r:List Oper}{a:Act}{T U:TypeId}{x y:Operand}{l m:List UInt8}(hw:Region.wanted o (yielded ops a.tmps)=true)(ho:o.op=.binOp .add T x y U)
  (hx:a.eval x=.string (str l)) (hy:a.eval y=.string (str m)) (hl:l.length+m.length≤9223372036854775807) (h:SeqT P ops S K r (a.put o.dst (.string (str (l++m))))):SeqT P ops S K (o :: r) a:=zBq hw (fun _ _=>add_run ho hx hy hl) h
def WC(d:Nat)(s:List UInt8):Array Value:=#[.string (str s),.int .i64 (d:Int)]
set_option maxHeartbeats 1000000 in
theorem wline_any(g d:Nat)(s t:List UInt8)(w:World)(h:HasC 108 g (WC d s) w)(hd:d≤100)(hl:s.length+t.length≤140737488355328):Calls Tryz.prog 41 #[.pointer (some ⟨g,0,none⟩),.string (str t)] w fun e w' =>
  e=.returned (.tuple #[])∧HasC 108 g (WC d (s++(ind d++t++[10]))) w' ∧ w.grownBy w' (some g):=by
 have H:=hid h;clear h;go_enter Tryz.func41,Tryz.ntmps41;go_wp2;go_loopg [4] d (fun gh i wr=>∃j:Nat,j+gh=d∧i=.int .i64 j∧Hid (HasC 108 g (WC d (s++ind j)) wr∧w.grownBy wr (some g)));case atStart=>exact⟨0,by omega,rfl,hid ⟨by rw[ind,yF];exact H.out,World.grownBy.refl _ _⟩⟩
 case round=>
  clear H;obtain⟨j,hj,rfl,HR⟩:=hrel;have c0:wr.cell? ⟨g,0,none⟩=some (.string (str (s++ind j))):=HR.out.1.cell 0;have c1:wr.cell? ⟨g,1,none⟩=some (.int .i64 (d:Int)):=HR.out.1.cell 1;have f0:wr.frozen? ⟨g,0,none⟩=false:=HR.out.1.frz 0;have hil:=zLw j;by_cases hlt:j<d
  ·have hz:(j:Int)<(d:Int):=by omega
   go_wp2_with (refine zAf rfl rfl rfl rfl (by simp only[yA,yG,yH];omega) ?_);go_roundg (d - (j+1));case measure=>omega
   case rel=>exact⟨j+1,by omega,by go_num,hid ⟨by have:=HR.out.1.set 0 (.string (str (s++ind j++[32,32])));rwa [yE]at this,HR.out.2.trans (zBb _ _ _ _)⟩⟩
  ·have hz:¬((j:Int)<(d:Int)):=by omega
   obtain rfl:j=d:=by omega
   go_wp2_with (refine zAf rfl rfl rfl rfl (by simp only[yA,yG,yH];omega) ?_);go_end0;refine⟨rfl,?_,HR.out.2.trans (zBb _ _ _ _)⟩;have:=HR.out.1.set 0 (.string (str (s++ind j++t++[10])));simp only[yE]at this⊢;exact this
theorem wopen_any(g d:Nat)(s t:List UInt8)(w:World)(h:HasC 108 g (WC d s) w)(hd:d≤100)(hl:s.length+t.length+2≤140737488355328):Calls Tryz.prog 40 #[.pointer (some ⟨g,0,none⟩),.string (str t)] w fun e w' =>
  e=.returned (.tuple #[])∧HasC 108 g (WC (d+1) (s++(ind d++(t++[32,123])++[10]))) w' ∧ w.grownBy w' (some g):=by
 have H:=hid h;clear h;go_enter Tryz.func40,Tryz.ntmps40;go_wp2_with (refine zAf rfl rfl rfl rfl (by simp only[yG,yH];omega) ?_);refine(wline_any g d s (t++[32,123]) _ H.out hd (by simp only[yA,yG,yH];omega)).mono ?_;rintro e w1 ⟨rfl,h1,k1⟩;have H1:=hid (And.intro h1 k1);clear h1 k1 H;have c1:w1.cell? ⟨g,1,none⟩=some (.int .i64 (d:Int)):=H1.out.1.cell 1;have f1:w1.frozen? ⟨g,1,none⟩=false:=H1.out.1.frz 1;have e1:IntKind.i64.wrap ((d:Int)+1)=((d+1:Nat):Int):=by rw[IntKind.wrap_i64];omega
 go_wp2_with fail;go_end0;exact⟨rfl,H1.out.1.set 1 (.int .i64 ((d+1:Nat):Int)),H1.out.2.trans (zBb _ _ _ _)⟩
theorem wclose_any(g d:Nat)(s:List UInt8)(w:World)(h:HasC 108 g (WC (d+1) s) w)(hd:d≤100)(hl:s.length+1≤140737488355328):Calls Tryz.prog 43 #[.pointer (some ⟨g,0,none⟩)] w fun e w' =>
  e=.returned (.tuple #[])∧HasC 108 g (WC d (s++lineW d [] [125])) w' ∧ w.grownBy w' (some g):=by
 have H:=hid h;clear h;have c1:w.cell? ⟨g,1,none⟩=some (.int .i64 ((d+1:Nat):Int)):=H.out.cell 1;have f1:w.frozen? ⟨g,1,none⟩=false:=H.out.frz 1;have e1:IntKind.i64.wrap (((d+1:Nat):Int) - 1)=(d:Int):=by rw[IntKind.wrap_i64];omega
 go_enter Tryz.func43,Tryz.ntmps43;go_wp2_with fail;refine(wline_any g d s [125] _ (H.out.set 1 (.int .i64 (d:Int))) hd (by simp only[yG,yH];omega)).mono ?_;rintro e w1 ⟨rfl,h1,k1⟩;go_wp2_with fail;go_end0;exact⟨rfl,by rw[lineW,joinW,yF];exact h1,(zBb _ _ _ _).trans k1⟩
structure XW (L:List (TypeId × Nat × Array Value)) (g d:Nat) (s:List UInt8) (w0 w:World):Prop where
 t:HasC 108 g (WC d s) w
 x:∀e∈L,HasC e.1 e.2.1 e.2.2 w∧e.2.1≠g
 k:w0.grownBy w (some g)
 lt:g<w0.heap.size
def WP(g d:Nat)(s t:List UInt8)(w:World)(e:Ending)(w' : World):Prop:=e=.returned (.tuple #[])∧HasC 108 g (WC d (s++t)) w' ∧ w.grownBy w' (some g)
section
variable {L : List (TypeId × Nat × Array Value)} {T : TypeId} {gx g d d' : Nat} {cs : Array Value} {s s' : List UInt8} {w0 w w' : World}
theorem XW.start(h:HasC 108 g (WC d s) w):XW [] g d s w w:=⟨h,fun _ he=>(by cases he),World.grownBy.refl _ _,zBj h⟩
theorem XW.low{B:Nat}(h:XW L g d s w0 w)(hB:B≤g):Below B w0 w:=(Below.refl B w0).grown h.k (by have:=h.lt;omega) fun k e=>by cases e;exact hB
theorem XW.a(h:XW ((T,gx,cs) :: L) g d s w0 w):HasC T gx cs w:=(h.x _ List.mem_cons_self).1
theorem XW.pop(h:XW ((T,gx,cs) :: L) g d s w0 w):XW L g d s w0 w:=⟨h.t,fun e he=>h.x e (List.mem_cons_of_mem _ he),h.k,h.lt⟩
theorem XW.below(h:XW L g d s w0 w)(hb:Below w.heap.size w w'):XW L g d s w0 w' := ⟨h.t.keep hb,fun e he=>⟨(h.x e he).1.keep hb,(h.x e he).2⟩,h.k.trans (zDf (yI _) hb _),h.lt⟩
theorem XW.drew(h:XW L g d s w0 w):XW L g d s w0 w.drew:=h.below (zAo _)
theorem XW.go(h:XW L g d s w0 w)(ht:HasC 108 g (WC d' s') w')(hk:w.grownBy w' (some g)):XW L g d' s' w0 w' := ⟨ht,fun e he=>⟨(h.x e he).1.grown hk fun q=>(h.x e he).2 (Option.some.inj q),(h.x e he).2⟩,h.k.trans hk,h.lt⟩
theorem XW.new(h:XW L g d s w0 w)(hx:HasC T w.heap.size cs w')(hk:Below w.heap.size w w'):XW ((T,w.heap.size,cs) :: L) g d s w0 w' := by
 have h1:=h.below hk;refine⟨h1.t,fun e he=>?_,h1.k,h1.lt⟩;rcases List.mem_cons.1 he with rfl|he
 ·exact⟨hx,fun q=>by have:=zBj h.t;simp only at q;omega⟩
 ·exact h1.x e he
theorem rput(h:XW L g d s w0 w)(ws:List (List UInt8)){A:ByteArray}(hA:A=str (joinW ws++[59]))(hd:d≤100)(hl:s.length+(lineW d ws [59]).length≤140737488355328) :
  Calls Tryz.prog 41 #[.pointer (some ⟨g,0,none⟩),.string A] w fun e w' => e=.returned (.tuple #[])∧XW L g d (s++lineW d ws [59]) w0 w' := by
 subst hA;have e:ind d++(joinW ws++[59])++[10]=lineW d ws [59]:=by simp only[lineW,yE]
 refine(wline_any g d s _ w h.t hd (by rw[←e]at hl;simp only[yA]at hl⊢;omega)).mono ?_;rintro _ w2 ⟨rfl,h2,k2⟩;exact⟨rfl,h.go (e ▸ h2) k2⟩
theorem ropen(h:XW L g d s w0 w)(ws:List (List UInt8)){A:ByteArray}(hA:A=str (joinW ws))(hd:d≤100)(hl:s.length+(lineW d ws [32,123]).length≤140737488355328) :
  Calls Tryz.prog 40 #[.pointer (some ⟨g,0,none⟩),.string A] w fun e w' => e=.returned (.tuple #[])∧XW L g (d+1) (s++lineW d ws [32,123]) w0 w' := by
 subst hA;have e:ind d++(joinW ws++[32,123])++[10]=lineW d ws [32,123]:=by simp only[lineW,yE]
 refine(wopen_any g d s _ w h.t hd (by rw[←e]at hl;simp only[yA,yG,yH]at hl⊢;omega)).mono ?_;rintro _ w2 ⟨rfl,h2,k2⟩;exact⟨rfl,h.go (e ▸ h2) k2⟩
theorem zFh(h:XW L g (d+1) s w0 w)(hd:d≤100)(hl:s.length+(lineW d [] [125]).length≤140737488355328) :
  Calls Tryz.prog 43 #[.pointer (some ⟨g,0,none⟩)] w fun e w' => e=.returned (.tuple #[])∧XW L g d (s++lineW d [] [125]) w0 w' := by
 refine(wclose_any g d s w h.t hd (by simp only[lineW,yA,yG,yH]at hl;omega)).mono ?_;rintro _ w2 ⟨rfl,h2,k2⟩;exact⟨rfl,h.go h2 k2⟩
end
end Go.Proofs.YtdlgnhefpoalnaaGreatDoor
