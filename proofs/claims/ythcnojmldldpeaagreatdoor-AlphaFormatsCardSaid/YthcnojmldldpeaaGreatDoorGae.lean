/- Alpha's Format: the walks of number, action, sequence, protocol, formatWildcard, formatPorts, source. Conditions: the text is at most 2^47 bytes; Go's own tables lie below it. -/
import Derived.Test.YthcnojmldldpeaaGreatDoorGac
import Derived.Test.YthcnojmldldpeaaGreatDoorGad
set_option maxHeartbeats 4000000
namespace Go.Proofs.YthcnojmldldpeaaGreatDoor
open Lib (hid)
open Go.RowKit
theorem Tryz.infoStrF:(Tryz.prog.info? 9).map (fun i=>(i.zero,i.size,i.bytes))=some (some (.string ⟨#[]⟩),1,16):=by kernel_rfl
structure WF (T:TypeId) (gx:Nat) (cs:Array Value) (ws:List (List UInt8)) (v:Value) (w0 w:World):Prop where
 o:w.ownsRow w0.heap.size 9 1 v ws.length (ws.map strV)
 x:HasC T gx cs w
 b:Below w0.heap.size w0 w
 hT:T≠9
theorem below_row{w w' : World}{B:Nat}{row:Option Nat}(h:w.grownBy w' row)(hr:∀b,row=some b→B≤b)(hB:B≤w.heap.size):Below B w w' :=
 ⟨h.os,h.tape,h.output,h.size,fun b hb=>h.block b (Nat.lt_of_lt_of_le hb hB) (fun e=>by have:=hr b e.symm;omega)⟩
section
variable {T : TypeId} {gx : Nat} {cs : Array Value} {ws : List (List UInt8)} {v : Value} {w0 w w' : World}
theorem WF.below(h:WF T gx cs ws v w0 w)(hb:Below w.heap.size w w'):WF T gx cs ws v w0 w' :=
 ⟨h.o.kept (row:=none) (zFm (Nat.le_refl _) hb none) (by cases v.ownBlock with|none=>exact Or.inl rfl|some k=>exact Or.inr (fun h=>by cases h)),h.x.keep hb,h.b.trans (hb.mono h.b.size),h.hT⟩
theorem WF.drew(h:WF T gx cs ws v w0 w):WF T gx cs ws v w0 w.drew:=h.below (zAs _)
theorem WF.new(hx:HasC T gx cs w)(hb:Below w0.heap.size w0 w)(hT:T≠9)(hn:ws.length≤1000):WF T gx cs ws (.slice (some ⟨w.heap.size,0,none⟩) ws.length ws.length) w0 (w.alloc (.cells (ws.map strV).toArray 9)) :=
 ⟨⟨by simp,Or.inr ⟨w.heap.size,ws.length,_,rfl,hb.size,HasC.new w _ _,Nat.le_refl _,by unfold maxLen;omega,by simp,by rw[Nat.mul_one];exact List.take_of_length_le (by simp)⟩⟩,hx.keep ((Below.refl _ w).alloc (Nat.le_refl _) _),hb.alloc hb.size _,hT⟩
theorem zBb{ops:Array Oper}{rest:List Oper}{o:Oper}{a:Act}{Q:Exit→Act→World→Prop}(hgd:o.guard=none)(s x:Operand)
  (ho:o.op=.call { callee:=.builtin .append,args:=#[s,x],argTypes:=#[82,82] }) (h:WF T gx cs ws v w0 w) (us:List (List UInt8)) (hs:a.eval s=v)
  (hx:a.eval x=.slice (some ⟨w.heap.size,0,none⟩) us.length us.length) (hn:ws.length+us.length≤1000)
  (k:∀v' w', WF T gx cs (ws++us) v' w0 w' → (∀(T' : TypeId) (g' : Nat) (cs' : Array Value),T' ≠ 9→HasC T' g' cs' w→HasC T' g' cs' w')→wpList Tryz.prog ops Q rest (a.put o.dst v') w'):wpList Tryz.prog ops Q (o :: rest) a (w.alloc (.cells (us.map strV).toArray 9)):=by
 obtain⟨i0,hi,hz0,hz1,hz2⟩:=info_parts Tryz.infoStrF;have hg:=h.b.size;refine wpList_append_own _ hgd s x _ ho w0.heap.size 9 i0 (.string ⟨#[]⟩) 1 16 Tryz.underlying82 hi hz0 hz1 hz2 rfl (by decide) v ws.length _ hs (h.o.alloc _) ⟨w.heap.size,0,none⟩ us.length us.length (us.map strV) hx (by simp) ?_ ?_ ?_ ?_ ?_ ?_
 ·intro j u hu
  rw[show(⟨w.heap.size,0,none⟩:Addr).add j=⟨w.heap.size,j,none⟩from(addr_add _ 0 j).trans (by rw[Nat.zero_add])];exact((HasC.new w 9 (us.map strV).toArray).cell j).trans (by rw[List.getElem?_toArray];exact hu)
 ·intro u hu
  obtain⟨y,-,rfl⟩:=List.mem_map.1 hu;rfl
 ·unfold maxLen;omega
 ·omega
 ·simp;omega
 ·intro v' w' hown' hgrow _
  have hb:Below w.heap.size w (w.alloc (.cells (us.map strV).toArray 9)):=(Below.refl _ w).alloc (Nat.le_refl _) _;have h2:=h.below hb;refine k v' w' ⟨by rw[List.length_append,List.map_append];exact hown', h2.x.grown hgrow (Lib.ownBlock_ne h2.o h2.x h.hT).symm,?_,h.hT⟩ fun T' g' cs' hT' hx' => (hx'.keep hb).grown hgrow (Lib.ownBlock_ne h2.o (hx'.keep hb) hT').symm
  exact h2.b.trans (below_row hgrow (fun b hb=>(h2.o.lt b hb).1) h2.b.size)
end
def SlS(g:Nat)(v:Value)(ws:List (List UInt8))(w:World):Prop :=
 (v=.slice none 0 0∧ws=[])∨∃(b c:Nat) (cs:Array Value),v=.slice (some ⟨b,0,none⟩) ws.length c∧ws.length≤c∧b≠g∧HasC 9 b cs w∧∀(j:Nat) (x:List UInt8),ws[j]? = some x→cs[j]? = some (strV x)
theorem SlS.new{g b:Nat}{ws:List (List UInt8)}{w:World}(hb:b≠g)(h:HasC 9 b (ws.map strV).toArray w):SlS g (.slice (some ⟨b,0,none⟩) ws.length ws.length) ws w :=
 Or.inr ⟨b,_,_,rfl,Nat.le_refl _,hb,h,fun j x hx=>by rw[List.getElem?_toArray,List.getElem?_map,hx];rfl⟩
theorem SlS.fk{g:Nat}{v:Value}{ws:List (List UInt8)}{w w' : World}(h:SlS g v ws w)(hf:FK g w w'):SlS g v ws w' := by
 rcases h with h|⟨b,c,cs,hv,hc,hb,hs,hj⟩
 ·exact .inl h
 ·exact .inr ⟨b,c,cs,hv,hc,hb,hs.fk hf hb (by decide),hj⟩
theorem WF.sls{T:TypeId}{gx g:Nat}{cs:Array Value}{ws:List (List UInt8)}{v:Value}{w0 w:World}(h:WF T gx cs ws v w0 w)(hg:g<w0.heap.size)(h0:0<ws.length):SlS g v ws w:=by
 rcases h.o.2 with⟨_,h1⟩|⟨b,cap,cur,hv,hB,hh,hc,_,hs,ht⟩
 ·omega
 ·refine Or.inr ⟨b,cap,cur,hv,hc,by omega,hh,fun j x hx=>?_⟩
  have h1:(ws.map strV)[j]? = some (strV x):=by rw[List.getElem?_map,hx];rfl
  rw[←ht,List.getElem?_take]at h1;split at h1
  ·rw[←Array.getElem?_toList];exact h1
  ·cases h1
theorem holdsA:HoldsB 63 2:=⟨by kernel_rfl,by decide⟩
abbrev TA(g:Nat)(s:List UInt8)(w:World):Prop:=FBx 63 [] g s w
theorem TA.lt{g:Nat}{s:List UInt8}{w:World}(h:TA g s w):g<w.heap.size:=by obtain⟨p,u,_,hc,_⟩:=h;exact zCv hc
def AP(g:Nat)(s l:List UInt8)(w:World)(e:Ending)(w' : World):Prop:=e=.returned (.tuple #[])∧TA g (s++l) w' ∧ FK g w w'
theorem joinW_take:∀(ws:List (List UInt8)) {k:Nat} (hk:k<ws.length),joinW (ws.take (k+1))=joinW (ws.take k)++((if k=0 then []else [32])++ws[k])
 |x :: r,0,_=>by simp[joinW]
 |x :: r,k+1,hk=>by
  have h:k<r.length:=by simpa using hk
  have e:r.take (k+1)=r.take k++[r[k]]:=List.take_succ_eq_append_getElem h;rw[List.take_succ_cons,List.take_succ_cons,e,if_neg (by omega)];simp only[joinW,List.flatMap_append,List.flatMap_cons,List.flatMap_nil,List.append_nil,List.getElem_cons_succ,List.append_assoc,List.cons_append,List.nil_append]
theorem joinW_part(ws:List (List UInt8)){k:Nat}(hk:k<ws.length):(joinW (ws.take k)).length+1+ws[k].length≤(joinW ws).length+1:=by
 have h:=joinW_take ws hk
 have h2:∀(a b:List (List UInt8)),(joinW a).length≤(joinW (a++b)).length:=by
  intro a b;cases a with
  |nil=>simp[joinW]
  |cons x r=>simp[joinW]
 have h3:=h2 (ws.take (k+1)) (ws.drop (k+1));rw[List.take_append_drop,h]at h3;by_cases hz:k=0
 ·subst hz
  simp only[List.take_zero,joinW,List.length_nil,List.length_append,if_true]at h3⊢;omega
 ·rw[if_neg hz]at h3
  simp only[List.length_append,List.length_cons,List.length_nil]at h3;omega
theorem SlS.at{g:Nat}{v:Value}{ws:List (List UInt8)}{w:World}(h:SlS g v ws w){k:Nat}(hk:k<ws.length):∃b c,v=.slice (some ⟨b,0,none⟩) ws.length c∧w.cell? ⟨b,k,none⟩=some (.string (str ws[k])):=by
 rcases h with⟨-,rfl⟩|⟨b,c,cs,rfl,-,-,hc,hj⟩
 ·exact absurd hk (by simp)
 ·exact⟨b,c,rfl,by rw[hc.cell];exact hj k _ (List.getElem?_eq_getElem hk)⟩
theorem SlS.form{g:Nat}{v:Value}{ws:List (List UInt8)}{w:World}(h:SlS g v ws w):∃A c,v=.slice A ws.length c:=by
 rcases h with⟨rfl,rfl⟩|⟨b,c,cs,rfl,-⟩
 ·exact⟨_,_,rfl⟩
 ·exact⟨_,_,rfl⟩
theorem aline_any(g:Nat)(s:List UInt8)(v:Value)(ws:List (List UInt8))(w:World)(h:TA g s w)(hv:SlS g v ws w)(hn:ws.length≤1000)(hl:s.length+(joinW ws).length+1≤140737488355328) :
  Calls Tryz.prog 9 #[.pointer (some ⟨g,0,none⟩),v] w (AP g s (joinW ws++[10]) w):=by
 have hg:=h.lt;have H:=hid (And.intro h (And.intro hv (FK.refl g w)));obtain⟨A,c,rfl⟩:=hv.form;clear h hv;go_enter Tryz.func9,Tryz.ntmps9;go_wp2;go_loopg [8] ws.length (fun gh i wr=>∃k:Nat,k+gh=ws.length∧i=.int .i64 k∧Hid (TA g (s++joinW (ws.take k)) wr∧SlS g (.slice A ws.length c) ws wr∧FK g w wr));case atStart=>exact⟨0,by omega,rfl,hid (by rw[List.take_zero,joinW,List.append_nil];exact H.out)⟩
 case round=>
  clear H;obtain⟨k,hk,rfl,HR⟩:=hrel;have hsz:g≤wr.heap.size:=by have:=HR.out.2.2.size;omega
  by_cases hlt:k<ws.length;case neg=>
   have hkz:¬((k:Int)<(ws.length:Int)):=by omega
   obtain rfl:k=ws.length:=by omega
   rw[List.take_length]at HR;go_wp2_with fail;refine(zJg holdsA HR.out.1 10 (by rw[List.length_append];omega) hsz).mono ?_;rintro e w1 ⟨rfl,h1,k1⟩;have R:=hid (And.intro h1.x (HR.out.2.2.trans k1));clear h1 k1 HR;go_wp2_with fail;go_end0;exact⟨rfl,by rw[←List.append_assoc];exact R.out.1,R.out.2⟩
  have hkz:(k:Int)<(ws.length:Int):=by omega
  obtain⟨b,c', e', c1⟩:=HR.out.2.1.at hlt;injection e' with e1 e2 e3
  subst e1 e3;have ET:=hid (joinW_take ws hlt);have hp:=joinW_part ws hlt;generalize ws[k]=x at c1 ET hp;clear e2;by_cases hz:k=0
  ·subst hz
   rw[if_pos rfl]at ET;replace hkz:(0:Int)<(ws.length:Int):=hkz;simp only[Int.ofNat_zero];go_wp2_with fail;refine(zJu holdsA HR.out.1 x (by rw[List.length_append];omega) hsz).mono ?_;rintro e w1 ⟨rfl,h1,k1⟩;have R:=hid (And.intro (And.intro h1.x (HR.out.2.1.fk k1)) (HR.out.2.2.trans k1));clear h1 k1 HR c1;go_wp2;go_roundg (ws.length - (0+1));case measure=>omega
   case rel=>exact⟨0+1,by omega,by go_num,hid ⟨by rw[ET.out,List.nil_append,←List.append_assoc];exact R.out.1.1,R.out.1.2,R.out.2⟩⟩
  ·have hz0:(0:Int)<(k:Int):=by omega
   rw[if_neg hz]at ET;go_wp2_with fail;refine(zJg holdsA HR.out.1 32 (by rw[List.length_append];omega) hsz).mono ?_;rintro e w1 ⟨rfl,h1,k1⟩;have R:=hid (And.intro (And.intro h1.x (HR.out.2.1.fk k1)) (HR.out.2.2.trans k1));have c1' := (HR.out.2.1.fk k1).at hlt;clear h1 k1 HR c1;go_wp2_with fail;refine(zJu holdsA R.out.1.1 x (by rw[List.length_append,List.length_append];simp only[List.length_cons,List.length_nil];omega) (by have:=R.out.2.size;omega)).mono ?_;rintro e w2 ⟨rfl,h2,k2⟩;have R2:=hid (And.intro (And.intro h2.x (R.out.1.2.fk k2)) (R.out.2.trans k2));clear h2 k2 R;go_wp2;go_roundg (ws.length - (k+1));case measure=>omega
   case rel=>exact⟨k+1,by omega,by go_num,hid ⟨by have:=R2.out.1.1;rw[ET.out];simpa only[List.append_assoc] using this,R2.out.1.2,R2.out.2⟩⟩
theorem ainner_any(g:Nat)(s:List UInt8)(v:Value)(ws:List (List UInt8))(w:World)(h:TA g s w)(hv:SlS g v ws w)(hn:ws.length≤1000)(hl:s.length+1+(joinW ws).length+1≤140737488355328) :
  Calls Tryz.prog 41 #[.pointer (some ⟨g,0,none⟩),v] w (AP g s ([32]++(joinW ws++[10])) w):=by
 have hg:=h.lt;have H:=hid (And.intro h hv);clear h hv;go_enter Tryz.func41,Tryz.ntmps41;go_wp2_with fail;refine(zJg holdsA H.out.1 32 (by omega) (Nat.le_of_lt hg)).mono ?_;rintro e w1 ⟨rfl,h1,k1⟩;have R:=hid (And.intro (And.intro h1.x (H.out.2.fk k1)) k1);clear h1 k1 H;go_wp2_with fail;refine(aline_any g _ v ws w1 R.out.1.1 R.out.1.2 hn (by rw[List.length_append];simp only[List.length_cons,List.length_nil];omega)).mono ?_;rintro e w2 ⟨rfl,h2,k2⟩;have R2:=hid (And.intro h2 (R.out.2.trans k2));clear h2 k2 R;go_wp2_with fail;go_end0;exact⟨rfl,by have:=R2.out.1;simpa only[List.append_assoc,List.cons_append,List.nil_append] using this,R2.out.2⟩
structure XL (L:List (TypeId × Nat × Array Value)) (g:Nat) (s:List UInt8) (w0 w:World):Prop where
 t:TA g s w
 x:∀e∈L,HasC e.1 e.2.1 e.2.2 w∧e.2.1≠g∧e.1≠5
 k:FK g w0 w
section
variable {L : List (TypeId × Nat × Array Value)} {T T1 T2 : TypeId} {gx g1 g2 g : Nat} {cs c1 c2 : Array Value} {s s' : List UInt8} {w0 w w' : World}
theorem XL.start(h:TA g s w):XL [] g s w w:=⟨h,fun _ he=>(by cases he),FK.refl g w⟩
theorem XL.a(h:XL ((T,gx,cs) :: L) g s w0 w):HasC T gx cs w:=(h.x _ List.mem_cons_self).1
theorem XL.pop{e:TypeId × Nat × Array Value}(h:XL (e :: L) g s w0 w):XL L g s w0 w:=⟨h.t,fun e he=>h.x e (List.mem_cons_of_mem _ he),h.k⟩
theorem XL.b{e:TypeId × Nat × Array Value}(h:XL (e :: (T,gx,cs) :: L) g s w0 w):HasC T gx cs w:=h.pop.a
theorem XL.below(h:XL L g s w0 w)(hb:Below w.heap.size w w'):XL L g s w0 w' := ⟨h.t.keep hb,fun e he=>⟨(h.x e he).1.keep hb,(h.x e he).2⟩,h.k.trans (.of_below hb)⟩
theorem XL.go(h:XL L g s w0 w)(ht:TA g s' w')(hk:FK g w w'):XL L g s' w0 w' := ⟨ht,fun e he=>⟨(h.x e he).1.fk hk (h.x e he).2.1 (h.x e he).2.2,(h.x e he).2⟩,h.k.trans hk⟩
theorem XL.drew(h:XL L g s w0 w):XL L g s w0 w.drew:=h.below (zAs _)
theorem XL.put(h:XL L g s w0 w)(hx:HasC T w.heap.size cs w')(hb:Below w.heap.size w w')(hT:T≠5):XL ((T,w.heap.size,cs) :: L) g s w0 w' := by
 have h1:=h.below hb;refine⟨h1.t,fun e he=>?_,h1.k⟩;rcases List.mem_cons.1 he with rfl|he
 ·exact⟨hx,(by have:=h.t.lt;show w.heap.size≠g;omega),hT⟩
 ·exact h1.x e he
theorem XL.new(h:XL L g s w0 w)(hT:T≠5):XL ((T,w.heap.size,cs) :: L) g s w0 (w.alloc (.cells cs T)):=h.put (HasC.new w _ _) ((Below.refl w.heap.size w).alloc (Nat.le_refl _) _) hT
theorem XL.call{f:FuncId}{args:Array Value}{v:Value}(h:XL L g s w0 w)(hc:Calls Tryz.prog f args w fun e w' => e=.returned v∧Below w.heap.size w w'):Calls Tryz.prog f args w fun e w' => e=.returned v∧XL L g s w0 w' := hc.mono fun _ _ ⟨he,hk⟩=>⟨he,h.below hk⟩
theorem lnW_len(i:Bool)(ws:List (List UInt8)):(lnW (i,ws)).length=(if i then 1 else 0)+(joinW ws).length+1:=by
 cases i<;>simp[lnW]<;>omega
theorem zHv(h:XL L g s w0 w)(v:Value)(i:Bool)(ws:List (List UInt8))(hv:SlS g v ws w)(hn:ws.length≤1000)(hl:s.length+(lnW (i,ws)).length≤140737488355328) :
  Calls Tryz.prog (if i then 41 else 9) #[.pointer (some ⟨g,0,none⟩),v] w fun e w' => e=.returned (.tuple #[])∧XL L g (s++lnW (i,ws)) w0 w' := by
 cases i
 ·refine(aline_any g s v ws _ h.t hv hn (by rw[lnW_len]at hl;simp at hl;omega)).mono ?_
  rintro e w2 ⟨rfl,h2,k2⟩;exact⟨rfl,h.go h2 k2⟩
 ·refine(ainner_any g s v ws _ h.t hv hn (by rw[lnW_len]at hl;simp at hl;omega)).mono ?_
  rintro e w2 ⟨rfl,h2,k2⟩;exact⟨rfl,h.go h2 k2⟩
theorem zBk(h:XL L g s w0 w)(i:Bool)(ws:List (List UInt8))(hn:ws.length≤1000)(hl:s.length+(lnW (i,ws)).length≤140737488355328) :
  Calls Tryz.prog (if i then 41 else 9) #[.pointer (some ⟨g,0,none⟩),.slice (some ⟨w.heap.size,0,none⟩) ws.length ws.length] (w.alloc (.cells (ws.map strV).toArray 9)) fun e w' => e=.returned (.tuple #[])∧XL L g (s++lnW (i,ws)) w0 w' :=
 zHv (h.below ((Below.refl w.heap.size w).alloc (Nat.le_refl _) (.cells (ws.map strV).toArray 9))) _ i ws (.new (by have:=h.t.lt;omega) (HasC.new w _ _)) hn hl
end
theorem zCm{x:List UInt8}(h:(!x.isEmpty)=true):(str x).toList.isEmpty=false:=by rw[zAe];simpa using h
theorem zCg{x:List UInt8}(h:(!x.isEmpty)=false):(str x).toList.isEmpty=true:=by rw[zAe];simpa using h
theorem zAw{b i:Bool}{ws:List (List UInt8)}(h:b=true):textA (optL b [(i,ws)])=lnW (i,ws):=by rw[h];exact List.append_nil _
theorem zAn{b:Bool}{l:List Ln}(h:b=false):textA (optL b l)=[]:=by rw[h];rfl
theorem zAx(l:Ln):textA [l]=lnW l:=List.append_nil _
theorem itoaI(n:Int)(h0:0≤n)(h1:n≤16777215)(w:World)(he:Env w):Calls Tryz.prog 40 #[.int .i64 n] w fun e w' => e=.returned (.string (str (decI n)))∧Below w.heap.size w w' := by
 refine(Tryz.strconv_Itoa n (by omega) (by omega) w he.2.1).mono ?_;rintro e w' ⟨rfl,k,os,rfl⟩;refine⟨?_,?_⟩
 ·rw[show Lib.itoa n=decI n from by unfold Lib.itoa decI;rw[if_neg (by omega),dec_lib]]
  rfl
 ·exact⟨rfl,rfl,rfl,by simp[Sort.grow,World.drewN],fun j hj=>Sort.heap_grow_old (w.drewN k) os hj⟩
theorem zBn(n:Int)(h0:0≤n)(h1:n≤16777215)(w:World)(he:Env w):Calls Tryz.prog 10 #[.int .i64 n] w fun e w' => e=.returned (.string (str (decI n)))∧Below w.heap.size w w' := by
 have H:=hid (itoaI n h0 h1 w he);clear he;go_enter Tryz.func10,Tryz.ntmps10;go_wp2_with fail;refine H.out.mono ?_;rintro e w1 ⟨rfl,hb⟩;have R:=hid hb;clear hb;go_wp2;go_ret;exact⟨rfl,R.out⟩
theorem zHx(b:Bool)(w:World):Calls Tryz.prog 45 #[.bool b] w fun e w' => e=.returned (.string (str (yesW b)))∧Below w.heap.size w w' := by
 cases b
 all_goals
  go_enter Tryz.func45,Tryz.ntmps45;go_wp2;go_ret;exact⟨rfl,Below.refl _ _⟩
theorem aseq_any(k:Nat)(hk:k≤100000)(w:World)(he:Env w):Calls Tryz.prog 44 #[.int .i64 k] w fun e w' => e=.returned (.string (str (nthW k)))∧Below w.heap.size w w' := by
 have H:=hid (zBn (10*(k+1)) (by omega) (by omega) w he);clear he;have h1:(0:Int)≤(k:Int):=by omega
 have h2:(k:Int)≤100000:=by omega
 have w1:IntKind.i64.wrap ((k:Int)+1)=(k:Int)+1:=by simp[IntKind.wrap,IntKind.signed,IntKind.bits];omega
 have w2:IntKind.i64.wrap (10*((k:Int)+1))=10*((k:Int)+1):=by simp[IntKind.wrap,IntKind.signed,IntKind.bits];omega
 go_enter Tryz.func44,Tryz.ntmps44;go_wp2_with fail;refine H.out.mono ?_;rintro e w1 ⟨rfl,hb⟩;have R:=hid hb;clear hb;go_wp2;go_ret;exact⟨rfl,R.out⟩
theorem aprot_any(n:Int)(h0 : -1≤n)(h1:n≤16777215)(w:World)(he:Env w):Calls Tryz.prog 49 #[.int .i64 n] w fun e w' => e=.returned (.string (str (protA n)))∧Below w.heap.size w w' := by
 rcases(show n = -1∨n=6∨n=17∨(n ≠ -1∧n≠6∧n≠17)from by omega)with rfl|rfl|rfl|⟨h2,h3,h4⟩
 rotate_left 3
 ·have d1:(n == -1)=false:=by simpa using h2
  have d2:(n==6)=false:=by simpa using h3
  have d3:(n==17)=false:=by simpa using h4
  have E:protA n=decI n:=by unfold protA protW;rw[d1,d2,d3];rfl
  have H:=hid (zBn n (by omega) h1 w he);rw[E];clear he E h2 h3 h4;go_enter Tryz.func49,Tryz.ntmps49;go_wp2_with fail;refine H.out.mono ?_;rintro e w1 ⟨rfl,hb⟩;have R:=hid hb;clear hb;go_wp2;go_ret;exact⟨rfl,R.out⟩
 all_goals
  go_enter Tryz.func49,Tryz.ntmps49;go_wp2;go_ret;exact⟨rfl,Below.refl _ _⟩
theorem asource_any(n:Int)(w:World):Calls Tryz.prog 99 #[.int .i64 n] w fun e w' => e=.returned (.string (str (srcT n)))∧Below w.heap.size w w' := by
 rcases(show n=1∨n=2∨n=3∨n=4∨(n≠1∧n≠2∧n≠3∧n≠4)from by omega)with rfl|rfl|rfl|rfl|⟨h1,h2,h3,h4⟩
 rotate_left 4
 ·have d1:(n==1)=false:=by simpa using h1
  have d2:(n==2)=false:=by simpa using h2
  have d3:(n==3)=false:=by simpa using h3
  have d4:(n==4)=false:=by simpa using h4
  have E:Hid (srcT n=[112,118]):=hid (by unfold srcT;rw[if_neg h1,if_neg h2,if_neg h3,if_neg h4]);clear h1 h2 h3 h4;go_enter Tryz.func99,Tryz.ntmps99;go_wp2;go_ret;exact⟨by rw[E.out];rfl,Below.refl _ _⟩
 all_goals
  go_enter Tryz.func99,Tryz.ntmps99;go_wp2;go_ret;exact⟨rfl,Below.refl _ _⟩
set_option maxRecDepth 100000 in
theorem awild_any(a m:Nat)(w:World)(ha:a<4294967296)(hm:m<4294967296)(he:Env w):Calls Tryz.prog 96 #[.agg #[.int .u32 (a:Int),.int .u32 (m:Int)]] w fun e w' => e=.returned (.string (str (wildT a m)))∧Below w.heap.size w w' := by
 have nx:=not_u32 hm;have us:IntKind.u32.signed=false:=rfl;have HB:Hid (Below w.heap.size w (w.alloc (.cells #[.int .u32 (a:Int),.int .u32 (m:Int)] 99))):=hid ((Below.refl w.heap.size w).alloc (Nat.le_refl _) _);have HE:=hid he;clear he;by_cases hany:m=4294967295
 ·have l1:(zBh (4294967295 - m) 33).getD 0=0:=by rw[hany];rfl
  have l2:(zBh (4294967295 - m) 33).isSome=true:=by rw[hany];rfl
  have E:Hid (wildT a m=[97,110,121]):=hid (by rw[hany];rfl);clear hany;go_enter Tryz.func96,Tryz.ntmps96;go_wp2_with fail;refine(zGg (4294967295 - m) _).mono ?_;rintro e w1 ⟨rfl,rfl⟩;rw[l1,l2];go_wp2;go_ret;exact⟨by rw[E.out];rfl,HB.out⟩
 have EW:wildT a m=wildW a m:=by unfold wildT;rw[if_neg (by simpa using hany)]
 rw[EW];clear EW;cases hl:zBh (4294967295 - m) 33 with
 |some n=>
  have d0:((n:Int)==0)=false:=by
   rw[beq_eq_false_iff_ne];intro h;obtain rfl:n=0:=by omega
   have:=(zJw (by decide) hl).2;rw[show maskN ((0:Nat):Int)=0 from rfl]at this;omega
  have l1:(zBh (4294967295 - m) 33).getD 0=n:=by rw[hl];rfl
  have l2:(zBh (4294967295 - m) 33).isSome=true:=by rw[hl];rfl
  by_cases h32:n=32
  ·have E:Hid (wildW a m=fmtA a):=hid (by unfold wildW;rw[hl];simp only[if_pos h32])
   subst h32;go_enter Tryz.func96,Tryz.ntmps96;go_wp2_with fail;refine(zGg (4294967295 - m) _).mono ?_;rintro e w1 ⟨rfl,rfl⟩;rw[l1,l2];go_wp2_with fail;refine(zCy a _ ha (HE.out.below HB.out)).mono ?_;rintro e w1 ⟨rfl,hb⟩;have R:=hid (HB.out.trans (hb.mono HB.out.size));clear hb;go_wp2;go_ret;exact⟨by rw[E.out];rfl,R.out⟩
  ·have E:Hid (wildW a m=hostF a n):=hid (by unfold wildW;rw[hl];simp only[if_neg h32])
   have d32:((n:Int)==32)=false:=by rw[beq_eq_false_iff_ne];omega
   go_enter Tryz.func96,Tryz.ntmps96;go_wp2_with fail;refine(zGg (4294967295 - m) _).mono ?_;rintro e w1 ⟨rfl,rfl⟩;rw[l1,l2];go_wp2_with fail;refine(zFx a n _ ha (HE.out.below HB.out)).mono ?_;rintro e w1 ⟨rfl,hb⟩;have R:=hid (HB.out.trans (hb.mono HB.out.size));clear hb;go_wp2;go_ret;exact⟨by rw[E.out];rfl,R.out⟩
 |none=>
  have l1:(zBh (4294967295 - m) 33).getD 0=0:=by rw[hl];rfl
  have l2:(zBh (4294967295 - m) 33).isSome=false:=by rw[hl];rfl
  have E:Hid (wildW a m=fmtA a++126 :: fmtA m):=hid (by unfold wildW;rw[hl];simp);have s1:(str (fmtA a)).size≤16:=by rw[zBx];exact zEu a
  have s2:(str (fmtA m)).size≤16:=by rw[zBx];exact zEu m
  go_enter Tryz.func96,Tryz.ntmps96;go_wp2_with fail;refine(zGg (4294967295 - m) _).mono ?_;rintro e w1 ⟨rfl,rfl⟩;rw[l1,l2];go_upto_region 8 with fail
  have q1:str (fmtA a)++⟨#[126]⟩=str (fmtA a++[126]):=catS _ [126];have q2:str (fmtA a++[126])++str (fmtA m)=str (fmtA a++[126]++fmtA m):=catS _ _;have z1:¬(9223372036854775807<(str (fmtA a)).size+1):=by omega
  have z2:¬(9223372036854775807<(str (fmtA a++[126])).size+(str (fmtA m)).size):=by rw[zBx]at s1⊢;rw[List.length_append];simp only[List.length_cons,List.length_nil];omega
  have HC:Hid (WB a m w (w.alloc (.cells #[.int .u32 (a:Int),.int .u32 (m:Int)] 99))):=hid ⟨HasC.new w _ _,HB.out⟩;have HF:Hid (∀(b:Nat),b<4294967296→∀W,WB a m w W→Calls Tryz.prog 48 #[.int .u32 (b:Int)] W fun e w' => e=.returned (.string (str (fmtA b)))∧WB a m w w'):=hid fun b hb W hW=>(zCy b W hb (HE.out.below hW.2)).mono fun e w' ⟨he,hk⟩=>⟨he,hW.keep hk⟩
  have HX:Hid (∀W,WB a m w W→W.cell? ⟨w.heap.size,0,none⟩=some (.int .u32 (a:Int))∧W.cell? ⟨w.heap.size,1,none⟩=some (.int .u32 (m:Int))):=hid fun W hW=>⟨hW.1.cell 0,hW.1.cell 1⟩
  clear s1 s2 nx us;refine zAo (fun W=>WB a m w W) (by kernel_rfl) (by kernel_rfl) (HC.out.keep (zAs _)) ?_
  repeat
   (first
    |(refine zBd (v:=?_) ?_ ?_ ?_;rotate_left;(· rfl);(· (intro W hW;obtain⟨c0,c1⟩:=HX.out W hW;go_simp<;>rfl)))
    |(refine zAm ?_ ?_ (HF.out a ha) ?_;(· rfl);(· (intro W hW;go_simp<;>rfl)))
    |(refine zAm ?_ ?_ (HF.out m hm) ?_;(· rfl);(· (intro W hW;go_simp<;>rfl))))
   simp only[Act.put,List.setIfInBounds_toArray,List.set_cons_zero,List.set_cons_succ]
  refine zBo (fun wq hS=>?_);have R:=hid hS.2;clear hS;go_wp2;go_ret;exact⟨by rw[E.out];rfl,R.out⟩
set_option maxRecDepth 100000 in
theorem aports_any(lo hi:Int)(w:World)(h0:0≤lo)(h1:lo≤hi)(h2:hi≤65535)(he:Env w):Calls Tryz.prog 97 #[.agg #[.int .i64 lo,.int .i64 hi]] w fun e w' => e=.returned (.string (str (portW lo hi)))∧Below w.heap.size w w' := by
 have HC:Hid (PB lo hi w (w.alloc (.cells #[.int .i64 lo,.int .i64 hi] 101))):=hid ⟨HasC.new w _ _,(Below.refl w.heap.size w).alloc (Nat.le_refl _) _⟩;have HF:Hid (∀(n:Int),0≤n→n≤16777215→∀W,PB lo hi w W→Calls Tryz.prog 10 #[.int .i64 n] W fun e w' => e=.returned (.string (str (decI n)))∧PB lo hi w w'):=hid fun n h0 h1 W hW=>(zBn n h0 h1 W (he.below hW.2)).mono fun e w' ⟨he,hk⟩=>⟨he,hW.keep hk⟩
 have HX:Hid (∀W,PB lo hi w W→W.cell? ⟨w.heap.size,0,none⟩=some (.int .i64 lo)∧W.cell? ⟨w.heap.size,1,none⟩=some (.int .i64 hi)):=hid fun W hW=>⟨hW.1.cell 0,hW.1.cell 1⟩
 clear he;by_cases hh:lo=hi
 ·subst hh
  have E:Hid (portW lo lo=decI lo):=hid (by unfold portW;rw[if_pos (by simp)]);go_enter Tryz.func97,Tryz.ntmps97;go_wp2_with fail;refine(HF.out lo h0 (by omega) _ HC.out).mono ?_;rintro e w1 ⟨rfl,hb⟩;have R:=hid hb.2;clear hb;go_wp2;go_ret;exact⟨by rw[E.out];rfl,R.out⟩
 ·have d:(lo==hi)=false:=by simpa using hh
  have E:Hid (portW lo hi=decI lo++45 :: decI hi):=hid (by unfold portW;rw[if_neg (by simpa using hh)];simp);have s1:=zKl (n:=lo) (by omega);have s2:=zKl (n:=hi) (by omega);have q1:str (decI lo)++⟨#[45]⟩=str (decI lo++[45]):=catS _ [45];have q2:str (decI lo++[45])++str (decI hi)=str (decI lo++[45]++decI hi):=catS _ _;have z1:¬(9223372036854775807<(str (decI lo)).size+1):=by omega
  have z2:¬(9223372036854775807<(str (decI lo++[45])).size+(str (decI hi)).size):=by rw[zBx]at s1⊢;rw[List.length_append];simp only[List.length_cons,List.length_nil];omega
  have P0:=hid (HF.out lo h0 (by omega));have P1:=hid (HF.out hi (by omega) (by omega));clear s1 s2 hh HF;go_enter Tryz.func97,Tryz.ntmps97;go_upto_region 3 with fail
  refine zAo (fun W=>PB lo hi w W) (by kernel_rfl) (by kernel_rfl) (HC.out.keep (zAs _)) ?_
  repeat
   (first
    |(refine zBd (v:=?_) ?_ ?_ ?_;rotate_left;(· rfl);(· (intro W hW;obtain⟨c0,c1⟩:=HX.out W hW;go_simp<;>rfl)))
    |(refine zAm ?_ ?_ P0.out ?_;(· rfl);(· (intro W hW;go_simp<;>rfl)))
    |(refine zAm ?_ ?_ P1.out ?_;(· rfl);(· (intro W hW;go_simp<;>rfl))))
   simp only[Act.put,List.setIfInBounds_toArray,List.set_cons_zero,List.set_cons_succ]
  refine zBo (fun wq hS=>?_);have R:=hid hS.2;clear hS;go_wp2;go_ret;exact⟨by rw[E.out];rfl,R.out⟩
end Go.Proofs.YthcnojmldldpeaaGreatDoor
