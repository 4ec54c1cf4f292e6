/- The walks of beta's cursor: sequence, over node's contract. Condition: the tokens lie below the cursor; there are no more than 65536. -/
import Derived.Test.YtdlgnhefpoalnaaGreatDoorJad
import Derived.Test.YtdlgnhefpoalnaaGreatDoorJac
set_option maxRecDepth 8000
set_option maxHeartbeats 16000000
namespace Go.Proofs.YtdlgnhefpoalnaaGreatDoor
open Lib (hid)
open Go.RowKit Go.Shelf
theorem zLq {P:Program} {T:TypeId} {k m b:Nat} (h:(P.info? T).map (fun i => (i.zero.map (fun z => z.cells.size),i.size,i.bytes)) = some (some k,m,b)) :
  ∃ i z,P.info? T = some i∧i.zero = some z∧z.cells.size = k∧i.size = m∧i.bytes = b:=by
 obtain ⟨i,hi,h2⟩:=Option.map_eq_some_iff.1 h
 simp only [Prod.mk.injEq] at h2
 obtain ⟨z,hz,h3⟩:=Option.map_eq_some_iff.1 h2.1
 exact ⟨i,z,hi,hz,h3,h2.2.1,h2.2.2⟩
section
variable {P : Program} {ops : Array Oper} {rest : List Oper} {o : Oper} {a : Act} {w : World} {Q : Exit → Act → World → Prop}
theorem zJc (w:World) (hgd:o.guard = none) (s x:Operand) (t:TypeId)
  (ho:o.op = .call { callee:=.builtin .append,args:=#[s,x],argTypes:=#[t,t] })
  (base:Nat) (e:TypeId) (i:TypeInfo) (z:Value) (size bts:Nat) (ht:P.underlying t = some (.slice e)) (hi:P.info? e = some i) (hz:i.zero = some z)
  (hsize:i.size = size) (hby:i.bytes = bts) (hzs:z.cells.size = size) (hsz:0 < size)
  (v:Value) (n:Nat) (xs:List Value) (hs:a.eval s = v) (hown:w.ownsRow base e size v n xs)
  (cs:Array Value) (hx:a.eval x = .slice (some ⟨w.heap.size,0,none⟩) 1 1) (hl:cs.size = size) (h1:∀ u ∈ cs.toList,u.oneCell' = true)
  (hbytes:(n + 1) * bts≤140737488355328) (hpos:1≤bts) (hbase:base≤w.heap.size)
  (h:∀ v' w', w'.ownsRow base e size v' (n + 1) (xs ++ cs.toList)→w.grownBy w' v.ownBlock→(v'.ownBlock = v.ownBlock∨v'.ownBlock = some (w.heap.size + 1))→wpList P ops Q rest (a.put o.dst v') w') :
  wpList P ops Q (o :: rest) a (w.alloc (.cells cs e)):=by
 refine wpList_append_own_at _ hgd s x t ho base e i z size bts ht hi hz hsize hby hzs hsz v n xs hs (hown.alloc _) ⟨w.heap.size,0,none⟩ 1 1 cs.toList hx (by simp [hl]) ?_ h1 ?_ hbytes (by simp; omega) ?_
 ·intro j u hu
  rw [zKe]
  simpa using hu
 ·have:=Nat.le_mul_of_pos_right (n + 1) hpos
  simp only [maxLen]; omega
 ·intro v' w' hown' hg _ hat
  refine h v' w' hown' ?_ (by simpa using hat)
  exact ⟨hg.os,hg.tape,hg.output,Nat.le_trans (by simp) hg.size,fun k hk hne => (hg.block k (by simp; omega) hne).trans (Below.heap_alloc w _ k hk)⟩
end
theorem OwnE.snoc {α:Type} {w:World} {B n:Nat} {T:TypeId} {cells:α→Array Value} {v:Value} {l:List α} {x:α} (h:w.ownsRow B T n v (l.length + 1) ((l.flatMap fun x => (cells x).toList) ++ (cells x).toList)):OwnE w B T n cells v (l ++ [x]):=by
 unfold OwnE
 simpa using h
structure KS (α:Type) (T S n b:Nat) (C:α→Array Value):Prop where
 row:(Tryz.prog.underlying T).map TypeDesc.isRow = some true
 size:(Tryz.prog.info? T).map (·.size) = some n
 info:(Tryz.prog.info? T).map (fun i => (i.zero.map (fun z => z.cells.size),i.size,i.bytes)) = some (some n,n,b)
 sl:Tryz.prog.underlying S = some (.slice T)
theorem kIf:KS If 72 22 12 112 If.C:=⟨by kernel_rfl,by kernel_rfl,by kernel_rfl,Tryz.underlying22⟩
theorem kPList:KS PList 81 23 2 40 PList.C:=⟨by kernel_rfl,by kernel_rfl,by kernel_rfl,Tryz.underlying23⟩
theorem kRMap:KS RMap 84 24 2 40 RMap.C:=⟨by kernel_rfl,by kernel_rfl,by kernel_rfl,Tryz.underlying24⟩
theorem kAList:KS AList 87 25 2 40 AList.C:=⟨by kernel_rfl,by kernel_rfl,by kernel_rfl,Tryz.underlying25⟩
theorem kCl:KS Cl 138 82 7 64 Cl.C:=⟨by kernel_rfl,by kernel_rfl,by kernel_rfl,Tryz.underlying82⟩
theorem kRu:KS Ru 144 85 10 64 Ru.C:=⟨by kernel_rfl,by kernel_rfl,by kernel_rfl,Tryz.underlying85⟩
theorem kSr:KS Sr 78 27 7 64 Sr.C:=⟨by kernel_rfl,by kernel_rfl,by kernel_rfl,Tryz.underlying27⟩
theorem kNb:KS Nb 149 34 4 48 Nb.C:=⟨by kernel_rfl,by kernel_rfl,by kernel_rfl,Tryz.underlying34⟩
theorem kRd:KS Rd 230 29 5 48 Rd.C:=⟨by kernel_rfl,by kernel_rfl,by kernel_rfl,Tryz.underlying29⟩
theorem kAR:KS AR 147 28 3 24 AR.C:=⟨by kernel_rfl,by kernel_rfl,by kernel_rfl,Tryz.underlying28⟩
theorem kPf:KS Pf 76 35 2 16 Pf.C:=⟨by kernel_rfl,by kernel_rfl,by kernel_rfl,Tryz.underlying35⟩
theorem kAg:KS Ag 151 36 3 24 Ag.C:=⟨by kernel_rfl,by kernel_rfl,by kernel_rfl,Tryz.underlying36⟩
theorem kCd:KS Cd 153 37 5 40 Cd.C:=⟨by kernel_rfl,by kernel_rfl,by kernel_rfl,Tryz.underlying37⟩
theorem kTr:KS Tr 74 26 9 64 Tr.C:=⟨by kernel_rfl,by kernel_rfl,by kernel_rfl,Tryz.underlying26⟩
theorem kPRule:KS PRule 136 79 5 40 PRule.C:=⟨by kernel_rfl,by kernel_rfl,by kernel_rfl,Tryz.underlying79⟩
def AddP {α:Type} (T n:Nat) (C:α→Array Value) (G O B:Nat) (v:Value) (l:List α) (x:α) (w:World) (e:Ending) (w' : World):Prop :=
 ∃ w1 gg cap,e = .returned (.pointer (some ⟨gg,l.length * n,none⟩))∧OwnE w1 B T n C (.slice (some ⟨gg,0,none⟩) (l.length + 1) cap) (l ++ [x])∧w.grownBy w1 v.ownBlock∧(v.ownBlock = some gg∨w.heap.size≤gg)∧w' = w1.setCell ⟨G,O,none⟩ (.slice (some ⟨gg,0,none⟩) (l.length + 1) cap)
abbrev AddSt (α:Type) (T n F:Nat) (C:α→Array Value):Prop:=∀ (B G O:Nat) (v:Value) (l:List α) (x:α) (w:World),OwnE w B T n C v l→w.cell? ⟨G,O,none⟩ = some v→w.frozen? ⟨G,O,none⟩ = false→v.ownBlock≠some G→B≤w.heap.size→l.length≤1000000000→(C x).all (·.oneCell') = true →
 Calls Tryz.prog F #[.pointer (some ⟨G,O,none⟩),.agg (C x)] w (AddP T n C G O B v l x w)
theorem zCf {w w1:World} {G O:Nat} {v:Value} {row:Option Nat} (hg:w.grownBy w1 row) (hr:row≠some G) (hc:w.cell? ⟨G,O,none⟩ = some v) (hf:w.frozen? ⟨G,O,none⟩ = false):w1.cell? ⟨G,O,none⟩ = some v∧w1.frozen? ⟨G,O,none⟩ = false:=by
 have hl:G < w.heap.size:=World.block_lt_of_cell? w _ hc
 have e:=hg.block G hl (fun e => hr e.symm)
 unfold World.cell? World.frozen? at *
 simp only at *
 rw [e]
 exact ⟨hc,hf⟩
theorem OwnE.push {α:Type} {P:Program} {w:World} {B n bts:Nat} {T SL:TypeId} {cells:α→Array Value} {v:Value} {l:List α} (h:OwnE w B T n cells v l) (hB:B≤w.heap.size) (hu:P.underlying SL = some (.slice T))
  (hI:(P.info? T).map (fun i => (i.zero.map (fun z => z.cells.size),i.size,i.bytes)) = some (some n,n,bts)) (hn:0 < n) (hl:∀ x,(cells x).toList.length = n) (x:α) (h1:(cells x).all (·.oneCell') = true)
  (hb:(l.length + 1) * bts≤140737488355328) (hk:0 < bts) (ty:TypeId) :
  ∃ A m c w', (Builtin.append_ #[SL,SL] ty #[v,.slice (some ⟨w.heap.size,0,none⟩) 1 1]).run P (w.alloc (.cells (cells x) T)) = .ok (.slice A m c) w' ∧ OwnE w' B T n cells (.slice A m c) (l ++ [x])∧w.grownBy w' v.ownBlock ∧
   ((Value.slice A m c).ownBlock = v.ownBlock∨(Value.slice A m c).ownBlock = none∨∃ k,(Value.slice A m c).ownBlock = some k∧w.heap.size≤k):=by
 obtain ⟨i,z,hi,hz,hzs,his,hib⟩:=zLq hI
 have ho:(w.alloc (.cells (cells x) T)).ownsRow B T n v l.length (l.flatMap fun x => (cells x).toList):=OwnE.below h ((Below.refl _ w).alloc (Nat.le_refl _) _)
 have hm:=Nat.le_mul_of_pos_right (l.length + 1) hk
 obtain ⟨v', w', hr,h2,h3, -,h5⟩:=run_append_own_at (P:=P) (w.alloc (.cells (cells x) T)) B SL ty T i z n bts hu hi hz his hib hzs hn v l.length _ ho ⟨w.heap.size,0,none⟩ 1 1 (cells x).toList (by rw [hl,Nat.one_mul])
  (fun j u hj => by rw [zKe]; simpa using hj) (fun u hu => Array.all_eq_true_iff_forall_mem.1 h1 u (by simpa using hu)) (by simp only [maxLen]; omega) hb (by simp; omega)
 have hf:∃ A m c,v' = .slice A m c:=by
  rcases h2.2 with ⟨e, -⟩ | ⟨g,cap,cur,e, -⟩
  ·exact ⟨_,_,_,e⟩
  ·exact ⟨_,_,_,e⟩
 obtain ⟨A,m,c,rfl⟩:=hf
 refine ⟨A,m,c,w', hr,OwnE.snoc h2,(World.grownBy_alloc w _ _).trans h3,?_⟩
 rcases h5 with q | q
 ·exact .inl q
 ·exact .inr (.inr ⟨_,q,by simp⟩)
section
variable {P : Program} {ops : Array Oper} {o : Oper} {a : Act} {w : World}
theorem zBi {K:Act→World→Prop} {Q:Exit→Act→World→Prop} {E:Prop} (hg:o.guard = none) (d x:Operand) (t t' : TypeId) (hop:o.op = Op.call { callee:=Callee.builtin Builtin.append,args:=#[d,x],argTypes:=#[t,t'] })
  (v u:Value) (hd:a.eval d = v) (hx:a.eval x = u) {v' : Value} {w' : World} (hr:(Builtin.append_ #[t,t'] o.type #[v,u]).run P w = .ok v' w') (hK:K (a.put o.dst v') w') :
  if Region.wanted o (yielded ops a.tmps) = true then Oper.wp P o a w K Q else E:=by
 have hw:Region.wanted o (yielded ops a.tmps) = true:=by simp [Region.wanted,hg]
 rw [if_pos hw]
 unfold Oper.wp execOp
 simp only [hop,resolve,invoke,builtin,Sem.run_bind,Sem.run_pure,Result.andThen_ok,List.map_toArray,List.map_cons,List.map_nil,hd,hx,hr]
 exact hK
end
theorem addIf:AddSt If 72 12 199 If.C:=by
 intro B G O v l x w h hc hz hG hB hl hone
 obtain ⟨A0,c0,rfl⟩:∃ A0 c0,v = .slice A0 l.length c0:=by obtain ⟨A0,c0,e, -⟩:=h.slv; exact ⟨A0,c0,e⟩
 have hlt:G < w.heap.size:=World.block_lt_of_cell? w _ hc
 have HX:=hid (HasC.new w 72 (If.C x))
 have hsz:(w.alloc (.cells (If.C x) 72)).heap.size = w.heap.size + 1:=by simp
 have hb1:Below w.heap.size w (w.alloc (.cells (If.C x) 72)):=(Below.refl _ w).alloc (Nat.le_refl _) _
 go_enter Tryz.func199,Tryz.ntmps199
 go_upto_region 1 with (fail)
 change Code.wp _ _ _ _ (w.alloc (.cells (If.C x) 72))
 generalize w.alloc (.cells (If.C x) 72) = wb at *
 have ho:OwnE wb.drew B 72 12 If.C (.slice A0 l.length c0) l:=OwnE.below (OwnE.below h hb1) ⟨rfl,rfl,rfl,Nat.le_refl _,fun _ _ => rfl⟩
 obtain ⟨A5,m5,c5,w5,hr,ho5,hg5,hn5⟩:=ho.push (P:=Tryz.prog) (by show B≤wb.heap.size; omega) kIf.sl kIf.info (by decide) (fun _ => rfl) x hone (by omega) (by decide) 22
 obtain ⟨gg,cap', cur,e5,hgB, -, -⟩:=ho5.part (by decide) (fun _ => rfl) (k:=l.length) (by simp)
 rw [List.length_append,List.length_singleton] at e5
 injection e5 with e6 e7 e8
 subst e6 e7 e8
 have cr:wb.cell? ⟨G,O,none⟩ = some (.slice A0 l.length c0):=(hb1.cell (p:=⟨G,O,none⟩) hlt).trans hc
 have cra:∀ o,(wb.alloc o).cell? ⟨G,O,none⟩ = some (.slice A0 l.length c0):=fun o => (World.cell?_alloc_lt wb o ⟨G,O,none⟩ (by show G < _; omega)).trans cr
 obtain ⟨c6,f6⟩:=zCf (w:=w) (w1:=w5) (v:=.slice A0 l.length c0) (row:=(Value.slice A0 l.length c0).ownBlock) ⟨hg5.os.trans hb1.os,hg5.tape.trans hb1.tape,hg5.output.trans hb1.output,Nat.le_trans hb1.size hg5.size,fun k hk hne => (hg5.block k (by show k < wb.heap.size; omega) hne).trans (hb1.block k hk)⟩ hG hc hz
 have HG5:Hid (w.grownBy w5 (Value.slice A0 l.length c0).ownBlock):=hid ⟨hg5.os.trans hb1.os,hg5.tape.trans hb1.tape,hg5.output.trans hb1.output,Nat.le_trans hb1.size hg5.size,fun k hk hne => (hg5.block k (by show k < wb.heap.size; omega) hne).trans (hb1.block k hk)⟩
 have cx0:wb.cell? ⟨w.heap.size,0,none⟩ = .some (strV x.name):=HX.out.cell 0
 have cx1:wb.cell? ⟨w.heap.size,1,none⟩ = .some (.int .u32 (x.addr:Int)):=HX.out.cell 1
 have cx2:wb.cell? ⟨w.heap.size,2,none⟩ = .some (.int .i64 x.len):=HX.out.cell 2
 have cx3:wb.cell? ⟨w.heap.size,3,none⟩ = .some (.int .i64 x.vlan):=HX.out.cell 3
 have cx4:wb.cell? ⟨w.heap.size,4,none⟩ = .some (.bool x.down):=HX.out.cell 4
 have cx5:wb.cell? ⟨w.heap.size,5,none⟩ = .some (.bool x.ls):=HX.out.cell 5
 have cx6:wb.cell? ⟨w.heap.size,6,none⟩ = .some (.int .i64 x.area):=HX.out.cell 6
 have cx7:wb.cell? ⟨w.heap.size,7,none⟩ = .some (.int .i64 x.cost):=HX.out.cell 7
 have cx8:wb.cell? ⟨w.heap.size,8,none⟩ = .some (.bool x.dv):=HX.out.cell 8
 have cx9:wb.cell? ⟨w.heap.size,9,none⟩ = .some (strV x.inn):=HX.out.cell 9
 have cx10:wb.cell? ⟨w.heap.size,10,none⟩ = .some (strV x.out):=HX.out.cell 10
 have cx11:wb.cell? ⟨w.heap.size,11,none⟩ = .some (.int .i64 x.side):=HX.out.cell 11
 have HR:=hid hr
 have HO5:=hid ho5
 have HN5:=hid hn5
 have HB1:=hid hb1
 clear hr ho5 hn5 hg5 HX ho h hc hz hb1
 go_wp2_with fail
 go_region_law (refine zBi rfl _ _ 22 22 rfl (.slice A0 l.length c0) (.slice (some ⟨wb.heap.size,0,none⟩) 1 1) (by simp [Act.eval]) (by simp [Act.eval]) HR.out ?_)
 all_goals
  go_wp2_with fail
  have cn:(w5.setCell ⟨G,O,none⟩ (.slice (some ⟨gg,0,none⟩) (l.length + 1) c5)).cell? ⟨G,O,none⟩ = some (.slice (some ⟨gg,0,none⟩) (l.length + 1) c5):=World.cell?_setCell_same _ _ _ c6
  have d0:IntKind.i64.wrap (l.length:Int) = (l.length:Int):=by rw [IntKind.wrap_i64]; omega
  have d1:(0:Int)≤(l.length:Int):=by omega
  have d2:(l.length:Int) < (l.length:Int) + 1:=by omega
  go_region_held3 (fun w' => w'.cell? ⟨G,O,none⟩ = some (.slice (some ⟨gg,0,none⟩) (l.length + 1) c5)) (assumption) (fail)
  go_wp2_with fail
  go_ret
  refine ⟨w5.drew,gg,c5,rfl,OwnE.below HO5.out ⟨rfl,rfl,rfl,Nat.le_refl _,fun _ _ => rfl⟩,⟨HG5.out.os,HG5.out.tape,HG5.out.output,HG5.out.size,HG5.out.block⟩,?_,rfl⟩
  rcases HN5.out with q | q | ⟨k,q,hk⟩
  ·exact .inl q.symm
  ·cases q
  ·injection q with q
   subst q
   have hk' : wb.heap.size≤gg:=hk
   exact .inr (by omega)
theorem addPList:AddSt PList 81 2 139 PList.C:=by
 intro B G O v l x w h hc hz hG hB hl hone
 obtain ⟨A0,c0,rfl⟩:∃ A0 c0,v = .slice A0 l.length c0:=by obtain ⟨A0,c0,e, -⟩:=h.slv; exact ⟨A0,c0,e⟩
 have hlt:G < w.heap.size:=World.block_lt_of_cell? w _ hc
 have HX:=hid (HasC.new w 81 (PList.C x))
 have hsz:(w.alloc (.cells (PList.C x) 81)).heap.size = w.heap.size + 1:=by simp
 have hb1:Below w.heap.size w (w.alloc (.cells (PList.C x) 81)):=(Below.refl _ w).alloc (Nat.le_refl _) _
 go_enter Tryz.func139,Tryz.ntmps139
 go_upto_region 1 with (fail)
 change Code.wp _ _ _ _ (w.alloc (.cells (PList.C x) 81))
 generalize w.alloc (.cells (PList.C x) 81) = wb at *
 have ho:OwnE wb.drew B 81 2 PList.C (.slice A0 l.length c0) l:=OwnE.below (OwnE.below h hb1) ⟨rfl,rfl,rfl,Nat.le_refl _,fun _ _ => rfl⟩
 obtain ⟨A5,m5,c5,w5,hr,ho5,hg5,hn5⟩:=ho.push (P:=Tryz.prog) (by show B≤wb.heap.size; omega) kPList.sl kPList.info (by decide) (fun _ => rfl) x hone (by omega) (by decide) 23
 obtain ⟨gg,cap', cur,e5,hgB, -, -⟩:=ho5.part (by decide) (fun _ => rfl) (k:=l.length) (by simp)
 rw [List.length_append,List.length_singleton] at e5
 injection e5 with e6 e7 e8
 subst e6 e7 e8
 have cr:wb.cell? ⟨G,O,none⟩ = some (.slice A0 l.length c0):=(hb1.cell (p:=⟨G,O,none⟩) hlt).trans hc
 have cra:∀ o,(wb.alloc o).cell? ⟨G,O,none⟩ = some (.slice A0 l.length c0):=fun o => (World.cell?_alloc_lt wb o ⟨G,O,none⟩ (by show G < _; omega)).trans cr
 obtain ⟨c6,f6⟩:=zCf (w:=w) (w1:=w5) (v:=.slice A0 l.length c0) (row:=(Value.slice A0 l.length c0).ownBlock) ⟨hg5.os.trans hb1.os,hg5.tape.trans hb1.tape,hg5.output.trans hb1.output,Nat.le_trans hb1.size hg5.size,fun k hk hne => (hg5.block k (by show k < wb.heap.size; omega) hne).trans (hb1.block k hk)⟩ hG hc hz
 have HG5:Hid (w.grownBy w5 (Value.slice A0 l.length c0).ownBlock):=hid ⟨hg5.os.trans hb1.os,hg5.tape.trans hb1.tape,hg5.output.trans hb1.output,Nat.le_trans hb1.size hg5.size,fun k hk hne => (hg5.block k (by show k < wb.heap.size; omega) hne).trans (hb1.block k hk)⟩
 have cx0:wb.cell? ⟨w.heap.size,0,none⟩ = .some (strV x.name):=HX.out.cell 0
 have cx1:wb.cell? ⟨w.heap.size,1,none⟩ = .some (x.v):=HX.out.cell 1
 have HR:=hid hr
 have HO5:=hid ho5
 have HN5:=hid hn5
 have HB1:=hid hb1
 clear hr ho5 hn5 hg5 HX ho h hc hz hb1
 go_wp2_with fail
 go_region_law (refine zBi rfl _ _ 23 23 rfl (.slice A0 l.length c0) (.slice (some ⟨wb.heap.size,0,none⟩) 1 1) (by simp [Act.eval]) (by simp [Act.eval]) HR.out ?_)
 all_goals
  go_wp2_with fail
  have cn:(w5.setCell ⟨G,O,none⟩ (.slice (some ⟨gg,0,none⟩) (l.length + 1) c5)).cell? ⟨G,O,none⟩ = some (.slice (some ⟨gg,0,none⟩) (l.length + 1) c5):=World.cell?_setCell_same _ _ _ c6
  have d0:IntKind.i64.wrap (l.length:Int) = (l.length:Int):=by rw [IntKind.wrap_i64]; omega
  have d1:(0:Int)≤(l.length:Int):=by omega
  have d2:(l.length:Int) < (l.length:Int) + 1:=by omega
  go_region_held3 (fun w' => w'.cell? ⟨G,O,none⟩ = some (.slice (some ⟨gg,0,none⟩) (l.length + 1) c5)) (assumption) (fail)
  go_wp2_with fail
  go_ret
  refine ⟨w5.drew,gg,c5,rfl,OwnE.below HO5.out ⟨rfl,rfl,rfl,Nat.le_refl _,fun _ _ => rfl⟩,⟨HG5.out.os,HG5.out.tape,HG5.out.output,HG5.out.size,HG5.out.block⟩,?_,rfl⟩
  rcases HN5.out with q | q | ⟨k,q,hk⟩
  ·exact .inl q.symm
  ·cases q
  ·injection q with q
   subst q
   have hk' : wb.heap.size≤gg:=hk
   exact .inr (by omega)
theorem addRMap:AddSt RMap 84 2 142 RMap.C:=by
 intro B G O v l x w h hc hz hG hB hl hone
 obtain ⟨A0,c0,rfl⟩:∃ A0 c0,v = .slice A0 l.length c0:=by obtain ⟨A0,c0,e, -⟩:=h.slv; exact ⟨A0,c0,e⟩
 have hlt:G < w.heap.size:=World.block_lt_of_cell? w _ hc
 have HX:=hid (HasC.new w 84 (RMap.C x))
 have hsz:(w.alloc (.cells (RMap.C x) 84)).heap.size = w.heap.size + 1:=by simp
 have hb1:Below w.heap.size w (w.alloc (.cells (RMap.C x) 84)):=(Below.refl _ w).alloc (Nat.le_refl _) _
 go_enter Tryz.func142,Tryz.ntmps142
 go_upto_region 1 with (fail)
 change Code.wp _ _ _ _ (w.alloc (.cells (RMap.C x) 84))
 generalize w.alloc (.cells (RMap.C x) 84) = wb at *
 have ho:OwnE wb.drew B 84 2 RMap.C (.slice A0 l.length c0) l:=OwnE.below (OwnE.below h hb1) ⟨rfl,rfl,rfl,Nat.le_refl _,fun _ _ => rfl⟩
 obtain ⟨A5,m5,c5,w5,hr,ho5,hg5,hn5⟩:=ho.push (P:=Tryz.prog) (by show B≤wb.heap.size; omega) kRMap.sl kRMap.info (by decide) (fun _ => rfl) x hone (by omega) (by decide) 24
 obtain ⟨gg,cap', cur,e5,hgB, -, -⟩:=ho5.part (by decide) (fun _ => rfl) (k:=l.length) (by simp)
 rw [List.length_append,List.length_singleton] at e5
 injection e5 with e6 e7 e8
 subst e6 e7 e8
 have cr:wb.cell? ⟨G,O,none⟩ = some (.slice A0 l.length c0):=(hb1.cell (p:=⟨G,O,none⟩) hlt).trans hc
 have cra:∀ o,(wb.alloc o).cell? ⟨G,O,none⟩ = some (.slice A0 l.length c0):=fun o => (World.cell?_alloc_lt wb o ⟨G,O,none⟩ (by show G < _; omega)).trans cr
 obtain ⟨c6,f6⟩:=zCf (w:=w) (w1:=w5) (v:=.slice A0 l.length c0) (row:=(Value.slice A0 l.length c0).ownBlock) ⟨hg5.os.trans hb1.os,hg5.tape.trans hb1.tape,hg5.output.trans hb1.output,Nat.le_trans hb1.size hg5.size,fun k hk hne => (hg5.block k (by show k < wb.heap.size; omega) hne).trans (hb1.block k hk)⟩ hG hc hz
 have HG5:Hid (w.grownBy w5 (Value.slice A0 l.length c0).ownBlock):=hid ⟨hg5.os.trans hb1.os,hg5.tape.trans hb1.tape,hg5.output.trans hb1.output,Nat.le_trans hb1.size hg5.size,fun k hk hne => (hg5.block k (by show k < wb.heap.size; omega) hne).trans (hb1.block k hk)⟩
 have cx0:wb.cell? ⟨w.heap.size,0,none⟩ = .some (strV x.name):=HX.out.cell 0
 have cx1:wb.cell? ⟨w.heap.size,1,none⟩ = .some (x.v):=HX.out.cell 1
 have HR:=hid hr
 have HO5:=hid ho5
 have HN5:=hid hn5
 have HB1:=hid hb1
 clear hr ho5 hn5 hg5 HX ho h hc hz hb1
 go_wp2_with fail
 go_region_law (refine zBi rfl _ _ 24 24 rfl (.slice A0 l.length c0) (.slice (some ⟨wb.heap.size,0,none⟩) 1 1) (by simp [Act.eval]) (by simp [Act.eval]) HR.out ?_)
 all_goals
  go_wp2_with fail
  have cn:(w5.setCell ⟨G,O,none⟩ (.slice (some ⟨gg,0,none⟩) (l.length + 1) c5)).cell? ⟨G,O,none⟩ = some (.slice (some ⟨gg,0,none⟩) (l.length + 1) c5):=World.cell?_setCell_same _ _ _ c6
  have d0:IntKind.i64.wrap (l.length:Int) = (l.length:Int):=by rw [IntKind.wrap_i64]; omega
  have d1:(0:Int)≤(l.length:Int):=by omega
  have d2:(l.length:Int) < (l.length:Int) + 1:=by omega
  go_region_held3 (fun w' => w'.cell? ⟨G,O,none⟩ = some (.slice (some ⟨gg,0,none⟩) (l.length + 1) c5)) (assumption) (fail)
  go_wp2_with fail
  go_ret
  refine ⟨w5.drew,gg,c5,rfl,OwnE.below HO5.out ⟨rfl,rfl,rfl,Nat.le_refl _,fun _ _ => rfl⟩,⟨HG5.out.os,HG5.out.tape,HG5.out.output,HG5.out.size,HG5.out.block⟩,?_,rfl⟩
  rcases HN5.out with q | q | ⟨k,q,hk⟩
  ·exact .inl q.symm
  ·cases q
  ·injection q with q
   subst q
   have hk' : wb.heap.size≤gg:=hk
   exact .inr (by omega)
theorem addAList:AddSt AList 87 2 144 AList.C:=by
 intro B G O v l x w h hc hz hG hB hl hone
 obtain ⟨A0,c0,rfl⟩:∃ A0 c0,v = .slice A0 l.length c0:=by obtain ⟨A0,c0,e, -⟩:=h.slv; exact ⟨A0,c0,e⟩
 have hlt:G < w.heap.size:=World.block_lt_of_cell? w _ hc
 have HX:=hid (HasC.new w 87 (AList.C x))
 have hsz:(w.alloc (.cells (AList.C x) 87)).heap.size = w.heap.size + 1:=by simp
 have hb1:Below w.heap.size w (w.alloc (.cells (AList.C x) 87)):=(Below.refl _ w).alloc (Nat.le_refl _) _
 go_enter Tryz.func144,Tryz.ntmps144
 go_upto_region 1 with (fail)
 change Code.wp _ _ _ _ (w.alloc (.cells (AList.C x) 87))
 generalize w.alloc (.cells (AList.C x) 87) = wb at *
 have ho:OwnE wb.drew B 87 2 AList.C (.slice A0 l.length c0) l:=OwnE.below (OwnE.below h hb1) ⟨rfl,rfl,rfl,Nat.le_refl _,fun _ _ => rfl⟩
 obtain ⟨A5,m5,c5,w5,hr,ho5,hg5,hn5⟩:=ho.push (P:=Tryz.prog) (by show B≤wb.heap.size; omega) kAList.sl kAList.info (by decide) (fun _ => rfl) x hone (by omega) (by decide) 25
 obtain ⟨gg,cap', cur,e5,hgB, -, -⟩:=ho5.part (by decide) (fun _ => rfl) (k:=l.length) (by simp)
 rw [List.length_append,List.length_singleton] at e5
 injection e5 with e6 e7 e8
 subst e6 e7 e8
 have cr:wb.cell? ⟨G,O,none⟩ = some (.slice A0 l.length c0):=(hb1.cell (p:=⟨G,O,none⟩) hlt).trans hc
 have cra:∀ o,(wb.alloc o).cell? ⟨G,O,none⟩ = some (.slice A0 l.length c0):=fun o => (World.cell?_alloc_lt wb o ⟨G,O,none⟩ (by show G < _; omega)).trans cr
 obtain ⟨c6,f6⟩:=zCf (w:=w) (w1:=w5) (v:=.slice A0 l.length c0) (row:=(Value.slice A0 l.length c0).ownBlock) ⟨hg5.os.trans hb1.os,hg5.tape.trans hb1.tape,hg5.output.trans hb1.output,Nat.le_trans hb1.size hg5.size,fun k hk hne => (hg5.block k (by show k < wb.heap.size; omega) hne).trans (hb1.block k hk)⟩ hG hc hz
 have HG5:Hid (w.grownBy w5 (Value.slice A0 l.length c0).ownBlock):=hid ⟨hg5.os.trans hb1.os,hg5.tape.trans hb1.tape,hg5.output.trans hb1.output,Nat.le_trans hb1.size hg5.size,fun k hk hne => (hg5.block k (by show k < wb.heap.size; omega) hne).trans (hb1.block k hk)⟩
 have cx0:wb.cell? ⟨w.heap.size,0,none⟩ = .some (strV x.name):=HX.out.cell 0
 have cx1:wb.cell? ⟨w.heap.size,1,none⟩ = .some (x.v):=HX.out.cell 1
 have HR:=hid hr
 have HO5:=hid ho5
 have HN5:=hid hn5
 have HB1:=hid hb1
 clear hr ho5 hn5 hg5 HX ho h hc hz hb1
 go_wp2_with fail
 go_region_law (refine zBi rfl _ _ 25 25 rfl (.slice A0 l.length c0) (.slice (some ⟨wb.heap.size,0,none⟩) 1 1) (by simp [Act.eval]) (by simp [Act.eval]) HR.out ?_)
 all_goals
  go_wp2_with fail
  have cn:(w5.setCell ⟨G,O,none⟩ (.slice (some ⟨gg,0,none⟩) (l.length + 1) c5)).cell? ⟨G,O,none⟩ = some (.slice (some ⟨gg,0,none⟩) (l.length + 1) c5):=World.cell?_setCell_same _ _ _ c6
  have d0:IntKind.i64.wrap (l.length:Int) = (l.length:Int):=by rw [IntKind.wrap_i64]; omega
  have d1:(0:Int)≤(l.length:Int):=by omega
  have d2:(l.length:Int) < (l.length:Int) + 1:=by omega
  go_region_held3 (fun w' => w'.cell? ⟨G,O,none⟩ = some (.slice (some ⟨gg,0,none⟩) (l.length + 1) c5)) (assumption) (fail)
  go_wp2_with fail
  go_ret
  refine ⟨w5.drew,gg,c5,rfl,OwnE.below HO5.out ⟨rfl,rfl,rfl,Nat.le_refl _,fun _ _ => rfl⟩,⟨HG5.out.os,HG5.out.tape,HG5.out.output,HG5.out.size,HG5.out.block⟩,?_,rfl⟩
  rcases HN5.out with q | q | ⟨k,q,hk⟩
  ·exact .inl q.symm
  ·cases q
  ·injection q with q
   subst q
   have hk' : wb.heap.size≤gg:=hk
   exact .inr (by omega)
theorem addCl:AddSt Cl 138 7 208 Cl.C:=by
 intro B G O v l x w h hc hz hG hB hl hone
 obtain ⟨A0,c0,rfl⟩:∃ A0 c0,v = .slice A0 l.length c0:=by obtain ⟨A0,c0,e, -⟩:=h.slv; exact ⟨A0,c0,e⟩
 have hlt:G < w.heap.size:=World.block_lt_of_cell? w _ hc
 have HX:=hid (HasC.new w 138 (Cl.C x))
 have hsz:(w.alloc (.cells (Cl.C x) 138)).heap.size = w.heap.size + 1:=by simp
 have hb1:Below w.heap.size w (w.alloc (.cells (Cl.C x) 138)):=(Below.refl _ w).alloc (Nat.le_refl _) _
 go_enter Tryz.func208,Tryz.ntmps208
 go_upto_region 1 with (fail)
 change Code.wp _ _ _ _ (w.alloc (.cells (Cl.C x) 138))
 generalize w.alloc (.cells (Cl.C x) 138) = wb at *
 have ho:OwnE wb.drew B 138 7 Cl.C (.slice A0 l.length c0) l:=OwnE.below (OwnE.below h hb1) ⟨rfl,rfl,rfl,Nat.le_refl _,fun _ _ => rfl⟩
 obtain ⟨A5,m5,c5,w5,hr,ho5,hg5,hn5⟩:=ho.push (P:=Tryz.prog) (by show B≤wb.heap.size; omega) kCl.sl kCl.info (by decide) (fun _ => rfl) x hone (by omega) (by decide) 82
 obtain ⟨gg,cap', cur,e5,hgB, -, -⟩:=ho5.part (by decide) (fun _ => rfl) (k:=l.length) (by simp)
 rw [List.length_append,List.length_singleton] at e5
 injection e5 with e6 e7 e8
 subst e6 e7 e8
 have cr:wb.cell? ⟨G,O,none⟩ = some (.slice A0 l.length c0):=(hb1.cell (p:=⟨G,O,none⟩) hlt).trans hc
 have cra:∀ o,(wb.alloc o).cell? ⟨G,O,none⟩ = some (.slice A0 l.length c0):=fun o => (World.cell?_alloc_lt wb o ⟨G,O,none⟩ (by show G < _; omega)).trans cr
 obtain ⟨c6,f6⟩:=zCf (w:=w) (w1:=w5) (v:=.slice A0 l.length c0) (row:=(Value.slice A0 l.length c0).ownBlock) ⟨hg5.os.trans hb1.os,hg5.tape.trans hb1.tape,hg5.output.trans hb1.output,Nat.le_trans hb1.size hg5.size,fun k hk hne => (hg5.block k (by show k < wb.heap.size; omega) hne).trans (hb1.block k hk)⟩ hG hc hz
 have HG5:Hid (w.grownBy w5 (Value.slice A0 l.length c0).ownBlock):=hid ⟨hg5.os.trans hb1.os,hg5.tape.trans hb1.tape,hg5.output.trans hb1.output,Nat.le_trans hb1.size hg5.size,fun k hk hne => (hg5.block k (by show k < wb.heap.size; omega) hne).trans (hb1.block k hk)⟩
 have cx0:wb.cell? ⟨w.heap.size,0,none⟩ = .some (.bool x.permit):=HX.out.cell 0
 have cx1:wb.cell? ⟨w.heap.size,1,none⟩ = .some (strV x.list):=HX.out.cell 1
 have cx2:wb.cell? ⟨w.heap.size,2,none⟩ = .some (.int .i64 x.tag):=HX.out.cell 2
 have cx3:wb.cell? ⟨w.heap.size,3,none⟩ = .some (.int .i64 x.setM):=HX.out.cell 3
 have cx4:wb.cell? ⟨w.heap.size,4,none⟩ = .some (.int .i64 x.setT):=HX.out.cell 4
 have cx5:wb.cell? ⟨w.heap.size,5,none⟩ = .some (.int .i64 x.setP):=HX.out.cell 5
 have cx6:wb.cell? ⟨w.heap.size,6,none⟩ = .some (.int .i64 x.prep):=HX.out.cell 6
 have HR:=hid hr
 have HO5:=hid ho5
 have HN5:=hid hn5
 have HB1:=hid hb1
 clear hr ho5 hn5 hg5 HX ho h hc hz hb1
 go_wp2_with fail
 go_region_law (refine zBi rfl _ _ 82 82 rfl (.slice A0 l.length c0) (.slice (some ⟨wb.heap.size,0,none⟩) 1 1) (by simp [Act.eval]) (by simp [Act.eval]) HR.out ?_)
 all_goals
  go_wp2_with fail
  have cn:(w5.setCell ⟨G,O,none⟩ (.slice (some ⟨gg,0,none⟩) (l.length + 1) c5)).cell? ⟨G,O,none⟩ = some (.slice (some ⟨gg,0,none⟩) (l.length + 1) c5):=World.cell?_setCell_same _ _ _ c6
  have d0:IntKind.i64.wrap (l.length:Int) = (l.length:Int):=by rw [IntKind.wrap_i64]; omega
  have d1:(0:Int)≤(l.length:Int):=by omega
  have d2:(l.length:Int) < (l.length:Int) + 1:=by omega
  go_region_held3 (fun w' => w'.cell? ⟨G,O,none⟩ = some (.slice (some ⟨gg,0,none⟩) (l.length + 1) c5)) (assumption) (fail)
  go_wp2_with fail
  go_ret
  refine ⟨w5.drew,gg,c5,rfl,OwnE.below HO5.out ⟨rfl,rfl,rfl,Nat.le_refl _,fun _ _ => rfl⟩,⟨HG5.out.os,HG5.out.tape,HG5.out.output,HG5.out.size,HG5.out.block⟩,?_,rfl⟩
  rcases HN5.out with q | q | ⟨k,q,hk⟩
  ·exact .inl q.symm
  ·cases q
  ·injection q with q
   subst q
   have hk' : wb.heap.size≤gg:=hk
   exact .inr (by omega)
theorem addRu:AddSt Ru 144 10 211 Ru.C:=by
 intro B G O v l x w h hc hz hG hB hl hone
 obtain ⟨A0,c0,rfl⟩:∃ A0 c0,v = .slice A0 l.length c0:=by obtain ⟨A0,c0,e, -⟩:=h.slv; exact ⟨A0,c0,e⟩
 have hlt:G < w.heap.size:=World.block_lt_of_cell? w _ hc
 have HX:=hid (HasC.new w 144 (Ru.C x))
 have hsz:(w.alloc (.cells (Ru.C x) 144)).heap.size = w.heap.size + 1:=by simp
 have hb1:Below w.heap.size w (w.alloc (.cells (Ru.C x) 144)):=(Below.refl _ w).alloc (Nat.le_refl _) _
 go_enter Tryz.func211,Tryz.ntmps211
 go_upto_region 1 with (fail)
 change Code.wp _ _ _ _ (w.alloc (.cells (Ru.C x) 144))
 generalize w.alloc (.cells (Ru.C x) 144) = wb at *
 have ho:OwnE wb.drew B 144 10 Ru.C (.slice A0 l.length c0) l:=OwnE.below (OwnE.below h hb1) ⟨rfl,rfl,rfl,Nat.le_refl _,fun _ _ => rfl⟩
 obtain ⟨A5,m5,c5,w5,hr,ho5,hg5,hn5⟩:=ho.push (P:=Tryz.prog) (by show B≤wb.heap.size; omega) kRu.sl kRu.info (by decide) (fun _ => rfl) x hone (by omega) (by decide) 85
 obtain ⟨gg,cap', cur,e5,hgB, -, -⟩:=ho5.part (by decide) (fun _ => rfl) (k:=l.length) (by simp)
 rw [List.length_append,List.length_singleton] at e5
 injection e5 with e6 e7 e8
 subst e6 e7 e8
 have cr:wb.cell? ⟨G,O,none⟩ = some (.slice A0 l.length c0):=(hb1.cell (p:=⟨G,O,none⟩) hlt).trans hc
 have cra:∀ o,(wb.alloc o).cell? ⟨G,O,none⟩ = some (.slice A0 l.length c0):=fun o => (World.cell?_alloc_lt wb o ⟨G,O,none⟩ (by show G < _; omega)).trans cr
 obtain ⟨c6,f6⟩:=zCf (w:=w) (w1:=w5) (v:=.slice A0 l.length c0) (row:=(Value.slice A0 l.length c0).ownBlock) ⟨hg5.os.trans hb1.os,hg5.tape.trans hb1.tape,hg5.output.trans hb1.output,Nat.le_trans hb1.size hg5.size,fun k hk hne => (hg5.block k (by show k < wb.heap.size; omega) hne).trans (hb1.block k hk)⟩ hG hc hz
 have HG5:Hid (w.grownBy w5 (Value.slice A0 l.length c0).ownBlock):=hid ⟨hg5.os.trans hb1.os,hg5.tape.trans hb1.tape,hg5.output.trans hb1.output,Nat.le_trans hb1.size hg5.size,fun k hk hne => (hg5.block k (by show k < wb.heap.size; omega) hne).trans (hb1.block k hk)⟩
 have cx0:wb.cell? ⟨w.heap.size,0,none⟩ = .some (.bool x.permit):=HX.out.cell 0
 have cx1:wb.cell? ⟨w.heap.size,1,none⟩ = .some (.int .i64 x.proto):=HX.out.cell 1
 have cx2:wb.cell? ⟨w.heap.size,2,none⟩ = .some (.int .u32 (x.sa:Int)):=HX.out.cell 2
 have cx3:wb.cell? ⟨w.heap.size,3,none⟩ = .some (.int .u32 (x.sm:Int)):=HX.out.cell 3
 have cx4:wb.cell? ⟨w.heap.size,4,none⟩ = .some (.int .u32 (x.da:Int)):=HX.out.cell 4
 have cx5:wb.cell? ⟨w.heap.size,5,none⟩ = .some (.int .u32 (x.dm:Int)):=HX.out.cell 5
 have cx6:wb.cell? ⟨w.heap.size,6,none⟩ = .some (.int .i64 x.slo):=HX.out.cell 6
 have cx7:wb.cell? ⟨w.heap.size,7,none⟩ = .some (.int .i64 x.shi):=HX.out.cell 7
 have cx8:wb.cell? ⟨w.heap.size,8,none⟩ = .some (.int .i64 x.dlo):=HX.out.cell 8
 have cx9:wb.cell? ⟨w.heap.size,9,none⟩ = .some (.int .i64 x.dhi):=HX.out.cell 9
 have HR:=hid hr
 have HO5:=hid ho5
 have HN5:=hid hn5
 have HB1:=hid hb1
 clear hr ho5 hn5 hg5 HX ho h hc hz hb1
 go_wp2_with fail
 go_region_law (refine zBi rfl _ _ 85 85 rfl (.slice A0 l.length c0) (.slice (some ⟨wb.heap.size,0,none⟩) 1 1) (by simp [Act.eval]) (by simp [Act.eval]) HR.out ?_)
 all_goals
  go_wp2_with fail
  have cn:(w5.setCell ⟨G,O,none⟩ (.slice (some ⟨gg,0,none⟩) (l.length + 1) c5)).cell? ⟨G,O,none⟩ = some (.slice (some ⟨gg,0,none⟩) (l.length + 1) c5):=World.cell?_setCell_same _ _ _ c6
  have d0:IntKind.i64.wrap (l.length:Int) = (l.length:Int):=by rw [IntKind.wrap_i64]; omega
  have d1:(0:Int)≤(l.length:Int):=by omega
  have d2:(l.length:Int) < (l.length:Int) + 1:=by omega
  go_region_held3 (fun w' => w'.cell? ⟨G,O,none⟩ = some (.slice (some ⟨gg,0,none⟩) (l.length + 1) c5)) (assumption) (fail)
  go_wp2_with fail
  go_ret
  refine ⟨w5.drew,gg,c5,rfl,OwnE.below HO5.out ⟨rfl,rfl,rfl,Nat.le_refl _,fun _ _ => rfl⟩,⟨HG5.out.os,HG5.out.tape,HG5.out.output,HG5.out.size,HG5.out.block⟩,?_,rfl⟩
  rcases HN5.out with q | q | ⟨k,q,hk⟩
  ·exact .inl q.symm
  ·cases q
  ·injection q with q
   subst q
   have hk' : wb.heap.size≤gg:=hk
   exact .inr (by omega)
theorem addSr:AddSt Sr 78 7 214 Sr.C:=by
 intro B G O v l x w h hc hz hG hB hl hone
 obtain ⟨A0,c0,rfl⟩:∃ A0 c0,v = .slice A0 l.length c0:=by obtain ⟨A0,c0,e, -⟩:=h.slv; exact ⟨A0,c0,e⟩
 have hlt:G < w.heap.size:=World.block_lt_of_cell? w _ hc
 have HX:=hid (HasC.new w 78 (Sr.C x))
 have hsz:(w.alloc (.cells (Sr.C x) 78)).heap.size = w.heap.size + 1:=by simp
 have hb1:Below w.heap.size w (w.alloc (.cells (Sr.C x) 78)):=(Below.refl _ w).alloc (Nat.le_refl _) _
 go_enter Tryz.func214,Tryz.ntmps214
 go_upto_region 1 with (fail)
 change Code.wp _ _ _ _ (w.alloc (.cells (Sr.C x) 78))
 generalize w.alloc (.cells (Sr.C x) 78) = wb at *
 have ho:OwnE wb.drew B 78 7 Sr.C (.slice A0 l.length c0) l:=OwnE.below (OwnE.below h hb1) ⟨rfl,rfl,rfl,Nat.le_refl _,fun _ _ => rfl⟩
 obtain ⟨A5,m5,c5,w5,hr,ho5,hg5,hn5⟩:=ho.push (P:=Tryz.prog) (by show B≤wb.heap.size; omega) kSr.sl kSr.info (by decide) (fun _ => rfl) x hone (by omega) (by decide) 27
 obtain ⟨gg,cap', cur,e5,hgB, -, -⟩:=ho5.part (by decide) (fun _ => rfl) (k:=l.length) (by simp)
 rw [List.length_append,List.length_singleton] at e5
 injection e5 with e6 e7 e8
 subst e6 e7 e8
 have cr:wb.cell? ⟨G,O,none⟩ = some (.slice A0 l.length c0):=(hb1.cell (p:=⟨G,O,none⟩) hlt).trans hc
 have cra:∀ o,(wb.alloc o).cell? ⟨G,O,none⟩ = some (.slice A0 l.length c0):=fun o => (World.cell?_alloc_lt wb o ⟨G,O,none⟩ (by show G < _; omega)).trans cr
 obtain ⟨c6,f6⟩:=zCf (w:=w) (w1:=w5) (v:=.slice A0 l.length c0) (row:=(Value.slice A0 l.length c0).ownBlock) ⟨hg5.os.trans hb1.os,hg5.tape.trans hb1.tape,hg5.output.trans hb1.output,Nat.le_trans hb1.size hg5.size,fun k hk hne => (hg5.block k (by show k < wb.heap.size; omega) hne).trans (hb1.block k hk)⟩ hG hc hz
 have HG5:Hid (w.grownBy w5 (Value.slice A0 l.length c0).ownBlock):=hid ⟨hg5.os.trans hb1.os,hg5.tape.trans hb1.tape,hg5.output.trans hb1.output,Nat.le_trans hb1.size hg5.size,fun k hk hne => (hg5.block k (by show k < wb.heap.size; omega) hne).trans (hb1.block k hk)⟩
 have cx0:wb.cell? ⟨w.heap.size,0,none⟩ = .some (.int .u32 (x.pa:Int)):=HX.out.cell 0
 have cx1:wb.cell? ⟨w.heap.size,1,none⟩ = .some (.int .i64 x.pl):=HX.out.cell 1
 have cx2:wb.cell? ⟨w.heap.size,2,none⟩ = .some (.int .u32 (x.next:Int)):=HX.out.cell 2
 have cx3:wb.cell? ⟨w.heap.size,3,none⟩ = .some (strV x.iface):=HX.out.cell 3
 have cx4:wb.cell? ⟨w.heap.size,4,none⟩ = .some (.bool x.discard):=HX.out.cell 4
 have cx5:wb.cell? ⟨w.heap.size,5,none⟩ = .some (.int .i64 x.admin):=HX.out.cell 5
 have cx6:wb.cell? ⟨w.heap.size,6,none⟩ = .some (.int .i64 x.tag):=HX.out.cell 6
 have HR:=hid hr
 have HO5:=hid ho5
 have HN5:=hid hn5
 have HB1:=hid hb1
 clear hr ho5 hn5 hg5 HX ho h hc hz hb1
 go_wp2_with fail
 go_region_law (refine zBi rfl _ _ 27 27 rfl (.slice A0 l.length c0) (.slice (some ⟨wb.heap.size,0,none⟩) 1 1) (by simp [Act.eval]) (by simp [Act.eval]) HR.out ?_)
 all_goals
  go_wp2_with fail
  have cn:(w5.setCell ⟨G,O,none⟩ (.slice (some ⟨gg,0,none⟩) (l.length + 1) c5)).cell? ⟨G,O,none⟩ = some (.slice (some ⟨gg,0,none⟩) (l.length + 1) c5):=World.cell?_setCell_same _ _ _ c6
  have d0:IntKind.i64.wrap (l.length:Int) = (l.length:Int):=by rw [IntKind.wrap_i64]; omega
  have d1:(0:Int)≤(l.length:Int):=by omega
  have d2:(l.length:Int) < (l.length:Int) + 1:=by omega
  go_region_held3 (fun w' => w'.cell? ⟨G,O,none⟩ = some (.slice (some ⟨gg,0,none⟩) (l.length + 1) c5)) (assumption) (fail)
  go_wp2_with fail
  go_ret
  refine ⟨w5.drew,gg,c5,rfl,OwnE.below HO5.out ⟨rfl,rfl,rfl,Nat.le_refl _,fun _ _ => rfl⟩,⟨HG5.out.os,HG5.out.tape,HG5.out.output,HG5.out.size,HG5.out.block⟩,?_,rfl⟩
  rcases HN5.out with q | q | ⟨k,q,hk⟩
  ·exact .inl q.symm
  ·cases q
  ·injection q with q
   subst q
   have hk' : wb.heap.size≤gg:=hk
   exact .inr (by omega)
theorem addNb:AddSt Nb 149 4 219 Nb.C:=by
 intro B G O v l x w h hc hz hG hB hl hone
 obtain ⟨A0,c0,rfl⟩:∃ A0 c0,v = .slice A0 l.length c0:=by obtain ⟨A0,c0,e, -⟩:=h.slv; exact ⟨A0,c0,e⟩
 have hlt:G < w.heap.size:=World.block_lt_of_cell? w _ hc
 have HX:=hid (HasC.new w 149 (Nb.C x))
 have hsz:(w.alloc (.cells (Nb.C x) 149)).heap.size = w.heap.size + 1:=by simp
 have hb1:Below w.heap.size w (w.alloc (.cells (Nb.C x) 149)):=(Below.refl _ w).alloc (Nat.le_refl _) _
 go_enter Tryz.func219,Tryz.ntmps219
 go_upto_region 1 with (fail)
 change Code.wp _ _ _ _ (w.alloc (.cells (Nb.C x) 149))
 generalize w.alloc (.cells (Nb.C x) 149) = wb at *
 have ho:OwnE wb.drew B 149 4 Nb.C (.slice A0 l.length c0) l:=OwnE.below (OwnE.below h hb1) ⟨rfl,rfl,rfl,Nat.le_refl _,fun _ _ => rfl⟩
 obtain ⟨A5,m5,c5,w5,hr,ho5,hg5,hn5⟩:=ho.push (P:=Tryz.prog) (by show B≤wb.heap.size; omega) kNb.sl kNb.info (by decide) (fun _ => rfl) x hone (by omega) (by decide) 34
 obtain ⟨gg,cap', cur,e5,hgB, -, -⟩:=ho5.part (by decide) (fun _ => rfl) (k:=l.length) (by simp)
 rw [List.length_append,List.length_singleton] at e5
 injection e5 with e6 e7 e8
 subst e6 e7 e8
 have cr:wb.cell? ⟨G,O,none⟩ = some (.slice A0 l.length c0):=(hb1.cell (p:=⟨G,O,none⟩) hlt).trans hc
 have cra:∀ o,(wb.alloc o).cell? ⟨G,O,none⟩ = some (.slice A0 l.length c0):=fun o => (World.cell?_alloc_lt wb o ⟨G,O,none⟩ (by show G < _; omega)).trans cr
 obtain ⟨c6,f6⟩:=zCf (w:=w) (w1:=w5) (v:=.slice A0 l.length c0) (row:=(Value.slice A0 l.length c0).ownBlock) ⟨hg5.os.trans hb1.os,hg5.tape.trans hb1.tape,hg5.output.trans hb1.output,Nat.le_trans hb1.size hg5.size,fun k hk hne => (hg5.block k (by show k < wb.heap.size; omega) hne).trans (hb1.block k hk)⟩ hG hc hz
 have HG5:Hid (w.grownBy w5 (Value.slice A0 l.length c0).ownBlock):=hid ⟨hg5.os.trans hb1.os,hg5.tape.trans hb1.tape,hg5.output.trans hb1.output,Nat.le_trans hb1.size hg5.size,fun k hk hne => (hg5.block k (by show k < wb.heap.size; omega) hne).trans (hb1.block k hk)⟩
 have cx0:wb.cell? ⟨w.heap.size,0,none⟩ = .some (.int .u32 (x.addr:Int)):=HX.out.cell 0
 have cx1:wb.cell? ⟨w.heap.size,1,none⟩ = .some (.int .i64 x.asn):=HX.out.cell 1
 have cx2:wb.cell? ⟨w.heap.size,2,none⟩ = .some (strV x.inn):=HX.out.cell 2
 have cx3:wb.cell? ⟨w.heap.size,3,none⟩ = .some (strV x.out):=HX.out.cell 3
 have HR:=hid hr
 have HO5:=hid ho5
 have HN5:=hid hn5
 have HB1:=hid hb1
 clear hr ho5 hn5 hg5 HX ho h hc hz hb1
 go_wp2_with fail
 go_region_law (refine zBi rfl _ _ 34 34 rfl (.slice A0 l.length c0) (.slice (some ⟨wb.heap.size,0,none⟩) 1 1) (by simp [Act.eval]) (by simp [Act.eval]) HR.out ?_)
 all_goals
  go_wp2_with fail
  have cn:(w5.setCell ⟨G,O,none⟩ (.slice (some ⟨gg,0,none⟩) (l.length + 1) c5)).cell? ⟨G,O,none⟩ = some (.slice (some ⟨gg,0,none⟩) (l.length + 1) c5):=World.cell?_setCell_same _ _ _ c6
  have d0:IntKind.i64.wrap (l.length:Int) = (l.length:Int):=by rw [IntKind.wrap_i64]; omega
  have d1:(0:Int)≤(l.length:Int):=by omega
  have d2:(l.length:Int) < (l.length:Int) + 1:=by omega
  go_region_held3 (fun w' => w'.cell? ⟨G,O,none⟩ = some (.slice (some ⟨gg,0,none⟩) (l.length + 1) c5)) (assumption) (fail)
  go_wp2_with fail
  go_ret
  refine ⟨w5.drew,gg,c5,rfl,OwnE.below HO5.out ⟨rfl,rfl,rfl,Nat.le_refl _,fun _ _ => rfl⟩,⟨HG5.out.os,HG5.out.tape,HG5.out.output,HG5.out.size,HG5.out.block⟩,?_,rfl⟩
  rcases HN5.out with q | q | ⟨k,q,hk⟩
  ·exact .inl q.symm
  ·cases q
  ·injection q with q
   subst q
   have hk' : wb.heap.size≤gg:=hk
   exact .inr (by omega)
theorem addRd:AddSt Rd 230 5 257 Rd.C:=by
 intro B G O v l x w h hc hz hG hB hl hone
 obtain ⟨A0,c0,rfl⟩:∃ A0 c0,v = .slice A0 l.length c0:=by obtain ⟨A0,c0,e, -⟩:=h.slv; exact ⟨A0,c0,e⟩
 have hlt:G < w.heap.size:=World.block_lt_of_cell? w _ hc
 have HX:=hid (HasC.new w 230 (Rd.C x))
 have hsz:(w.alloc (.cells (Rd.C x) 230)).heap.size = w.heap.size + 1:=by simp
 have hb1:Below w.heap.size w (w.alloc (.cells (Rd.C x) 230)):=(Below.refl _ w).alloc (Nat.le_refl _) _
 go_enter Tryz.func257,Tryz.ntmps257
 go_upto_region 1 with (fail)
 change Code.wp _ _ _ _ (w.alloc (.cells (Rd.C x) 230))
 generalize w.alloc (.cells (Rd.C x) 230) = wb at *
 have ho:OwnE wb.drew B 230 5 Rd.C (.slice A0 l.length c0) l:=OwnE.below (OwnE.below h hb1) ⟨rfl,rfl,rfl,Nat.le_refl _,fun _ _ => rfl⟩
 obtain ⟨A5,m5,c5,w5,hr,ho5,hg5,hn5⟩:=ho.push (P:=Tryz.prog) (by show B≤wb.heap.size; omega) kRd.sl kRd.info (by decide) (fun _ => rfl) x hone (by omega) (by decide) 29
 obtain ⟨gg,cap', cur,e5,hgB, -, -⟩:=ho5.part (by decide) (fun _ => rfl) (k:=l.length) (by simp)
 rw [List.length_append,List.length_singleton] at e5
 injection e5 with e6 e7 e8
 subst e6 e7 e8
 have cr:wb.cell? ⟨G,O,none⟩ = some (.slice A0 l.length c0):=(hb1.cell (p:=⟨G,O,none⟩) hlt).trans hc
 have cra:∀ o,(wb.alloc o).cell? ⟨G,O,none⟩ = some (.slice A0 l.length c0):=fun o => (World.cell?_alloc_lt wb o ⟨G,O,none⟩ (by show G < _; omega)).trans cr
 obtain ⟨c6,f6⟩:=zCf (w:=w) (w1:=w5) (v:=.slice A0 l.length c0) (row:=(Value.slice A0 l.length c0).ownBlock) ⟨hg5.os.trans hb1.os,hg5.tape.trans hb1.tape,hg5.output.trans hb1.output,Nat.le_trans hb1.size hg5.size,fun k hk hne => (hg5.block k (by show k < wb.heap.size; omega) hne).trans (hb1.block k hk)⟩ hG hc hz
 have HG5:Hid (w.grownBy w5 (Value.slice A0 l.length c0).ownBlock):=hid ⟨hg5.os.trans hb1.os,hg5.tape.trans hb1.tape,hg5.output.trans hb1.output,Nat.le_trans hb1.size hg5.size,fun k hk hne => (hg5.block k (by show k < wb.heap.size; omega) hne).trans (hb1.block k hk)⟩
 have cx0:wb.cell? ⟨w.heap.size,0,none⟩ = .some (.int .i64 x.frm):=HX.out.cell 0
 have cx1:wb.cell? ⟨w.heap.size,1,none⟩ = .some (.int .i64 x.metric):=HX.out.cell 1
 have cx2:wb.cell? ⟨w.heap.size,2,none⟩ = .some (.int .i64 x.tag):=HX.out.cell 2
 have cx3:wb.cell? ⟨w.heap.size,3,none⟩ = .some (strV x.map):=HX.out.cell 3
 have cx4:wb.cell? ⟨w.heap.size,4,none⟩ = .some (.int .i64 x.typ):=HX.out.cell 4
 have HR:=hid hr
 have HO5:=hid ho5
 have HN5:=hid hn5
 have HB1:=hid hb1
 clear hr ho5 hn5 hg5 HX ho h hc hz hb1
 go_wp2_with fail
 go_region_law (refine zBi rfl _ _ 29 29 rfl (.slice A0 l.length c0) (.slice (some ⟨wb.heap.size,0,none⟩) 1 1) (by simp [Act.eval]) (by simp [Act.eval]) HR.out ?_)
 all_goals
  go_wp2_with fail
  have cn:(w5.setCell ⟨G,O,none⟩ (.slice (some ⟨gg,0,none⟩) (l.length + 1) c5)).cell? ⟨G,O,none⟩ = some (.slice (some ⟨gg,0,none⟩) (l.length + 1) c5):=World.cell?_setCell_same _ _ _ c6
  have d0:IntKind.i64.wrap (l.length:Int) = (l.length:Int):=by rw [IntKind.wrap_i64]; omega
  have d1:(0:Int)≤(l.length:Int):=by omega
  have d2:(l.length:Int) < (l.length:Int) + 1:=by omega
  go_region_held3 (fun w' => w'.cell? ⟨G,O,none⟩ = some (.slice (some ⟨gg,0,none⟩) (l.length + 1) c5)) (assumption) (fail)
  go_wp2_with fail
  go_ret
  refine ⟨w5.drew,gg,c5,rfl,OwnE.below HO5.out ⟨rfl,rfl,rfl,Nat.le_refl _,fun _ _ => rfl⟩,⟨HG5.out.os,HG5.out.tape,HG5.out.output,HG5.out.size,HG5.out.block⟩,?_,rfl⟩
  rcases HN5.out with q | q | ⟨k,q,hk⟩
  ·exact .inl q.symm
  ·cases q
  ·injection q with q
   subst q
   have hk' : wb.heap.size≤gg:=hk
   exact .inr (by omega)
end Go.Proofs.YtdlgnhefpoalnaaGreatDoor
namespace Go.Proofs.YtdlgnhefpoalnaaGreatDoor
open Lib (hid)
open Go.RowKit
theorem HasC.loadR {P:Program} {T:TypeId} {g:Nat} {cs:Array Value} {w:World} (h:HasC T g cs w) (hr:(P.underlying T).map TypeDesc.isRow = some true) (hs:(P.info? T).map (·.size) = some cs.size):(loadVar T ⟨g,0,none⟩).run P w = .ok (.agg cs) w:=by
 obtain ⟨d,hu,hd⟩:=row_of hr
 have:=run_loadVar_mid (P:=P) w g 0 T cs.toList d h.range hu hd (by simpa using hs)
 simpa using this
theorem zAz {P:Program} {fn:Func} {tmps:Array Value} {w:World} {k j i:Nat} {T:TypeId} {g:Addr} {v u t:Value} (hf:fn.results = #[.cell k T,.tmp j,.tmp i]) (hk:tmps.getD k undef = .pointer (some g))
  (hj:tmps.getD j undef = u) (hi:tmps.getD i undef = t) (hl:(loadVar T g).run P w = .ok v w):(results fn tmps).run P w = .ok (.tuple #[v,u,t]) w:=by
 rw [Array.getD_eq_getD_getElem?] at hk hj hi
 unfold results
 simp [hf,hk,hj,hi,asAddr,hl]
theorem Tryz.rowTk:(Tryz.prog.underlying 65).map TypeDesc.isRow = some true:=by kernel_rfl
theorem Tryz.sizeTk:(Tryz.prog.info? 65).map (·.size) = some 2:=by kernel_rfl
theorem Tryz.rowNode:(Tryz.prog.underlying 180).map TypeDesc.isRow = some true:=by kernel_rfl
theorem Tryz.sizeNode:(Tryz.prog.info? 180).map (·.size) = some 4:=by kernel_rfl
theorem Tryz.infoNode:(Tryz.prog.info? 180).map (fun i => (i.zero.map (fun z => z.cells.size),i.size,i.bytes)) = some (some 4,4,64):=by kernel_rfl
theorem cnext_any {c B:Nat} {lines:Int} {x:Tk} {r:List Tk} {w:World} (h:Cu c B lines (x :: r) w) :
  Calls Tryz.prog 133 #[.pointer (some ⟨c,0,none⟩)] w fun e w' => e = .returned (.agg #[.int .i64 x.1,strV x.2])∧Cu c B lines r w' ∧ w.grownBy w' (some c):=by
 have H0:=hid h
 have hcl:=h.lt
 clear h
 go_enter Tryz.func133,Tryz.ntmps133
 go_upto_region 1 with (fail)
 have HA:=hid (HasC.new w 65 #[.int .i64 0,.string ⟨#[]⟩])
 have HBA:=hid ((Below.refl w.heap.size w).alloc (Nat.le_refl _) (.cells #[.int .i64 0,.string ⟨#[]⟩] 65))
 change Code.wp _ _ _ _ (w.alloc (.cells #[.int .i64 0,.string ⟨#[]⟩] 65))
 generalize w.alloc (.cells #[.int .i64 0,.string ⟨#[]⟩] 65) = wA at HA HBA ⊢
 have H1:=hid (H0.out.keep HBA.out)
 obtain ⟨g,o,p,hv,c0,c1, -,hp,hm, -⟩:=H1.out.popped
 have k0:wA.cell? ⟨c,0,none⟩ = some (.slice (some ⟨g,o,none⟩) (r.length + 1) p):=by rw [Lib.cell_of_heap hv]; rfl
 have HV:=hid hv
 have hi:(0:Int) < (r.length:Int) + 1:=by omega
 have hcA:c < wA.heap.size:=Nat.lt_of_lt_of_le hcl HBA.out.size
 have hwA:w.heap.size < wA.heap.size:=zAw HA.out
 unfold strV at c1
 unfold maxLen at hm
 clear hv
 go_upto_region 2 with (fail)
 have HL:=hid (HasC.new wA 65 #[.int .i64 x.1,.string (str x.2)])
 have HB2:=hid ((Below.refl wA.heap.size wA).alloc (Nat.le_refl _) (.cells #[.int .i64 x.1,.string (str x.2)] 65))
 change Code.wp _ _ _ _ (wA.alloc (.cells #[.int .i64 x.1,.string (str x.2)] 65))
 generalize wA.alloc (.cells #[.int .i64 x.1,.string (str x.2)] 65) = w2 at HL HB2 ⊢
 have H2:=hid (H1.out.keep HB2.out)
 obtain ⟨g', o', p', hv', -, -, -,hp', hm', hput⟩:=H2.out.popped
 have e:=hv'.symm.trans ((HB2.out.block c hcA).trans HV.out)
 simp at e
 obtain ⟨⟨rfl,rfl⟩,rfl⟩:=e
 have HP:=hid hput
 have k2:w2.cell? ⟨c,0,none⟩ = some (.slice (some ⟨g', o', none⟩) (r.length + 1) p'):=by rw [Lib.cell_of_heap hv']; rfl
 have f2:w2.frozen? ⟨c,0,none⟩ = false:=Lib.frozen_of_heap hv' 0
 have HZ:Hid (HasC 65 w.heap.size #[.int .i64 0,.string ⟨#[]⟩] w2):=hid (HA.out.keep HB2.out)
 clear hv' hput c0 c1 k0 HV
 have l0:w2.cell? ⟨wA.heap.size,0,none⟩ = some (.int .i64 x.1):=HL.out.cell 0
 have l1:w2.cell? ⟨wA.heap.size,1,none⟩ = some (.string (str x.2)):=HL.out.cell 1
 have z0:w2.cell? ⟨w.heap.size,0,none⟩ = some (.int .i64 0):=HZ.out.cell 0
 have z1:w2.cell? ⟨w.heap.size,1,none⟩ = some (.string ⟨#[]⟩):=HZ.out.cell 1
 have fz0:w2.frozen? ⟨w.heap.size,0,none⟩ = false:=HZ.out.frz 0
 have fz1:w2.frozen? ⟨w.heap.size,1,none⟩ = false:=HZ.out.frz 1
 have n1:wA.heap.size≠c:=by omega
 have n2:w.heap.size≠c:=by omega
 have n3:wA.heap.size≠w.heap.size:=by omega
 have FIN:∀ A', (p' ≠ 1→A' = some ⟨g', o' + 2,none⟩)→A' ≠ none →
   HasC 65 w.heap.size #[.int .i64 x.1,.string (str x.2)] (((w2.setCell ⟨c,0,none⟩ (.slice A' r.length (p' - 1))).setCell ⟨w.heap.size,0,none⟩ (.int .i64 x.1)).setCell ⟨w.heap.size,1,none⟩ (.string (str x.2))) ∧
   Cu c B lines r (((w2.setCell ⟨c,0,none⟩ (.slice A' r.length (p' - 1))).setCell ⟨w.heap.size,0,none⟩ (.int .i64 x.1)).setCell ⟨w.heap.size,1,none⟩ (.string (str x.2))) ∧
   w.grownBy (((w2.setCell ⟨c,0,none⟩ (.slice A' r.length (p' - 1))).setCell ⟨w.heap.size,0,none⟩ (.int .i64 x.1)).setCell ⟨w.heap.size,1,none⟩ (.string (str x.2))) (some c):=by
  intro A' h1 h2
  obtain ⟨q1,q2⟩:=HP.out A' h1 h2
  have hBc:B≤c:=H0.out.1
  have ga:=zAy (w2.setCell ⟨c,0,none⟩ (.slice A' r.length (p' - 1))) w.heap.size 0 (.int .i64 x.1)
  have gb:=zAy ((w2.setCell ⟨c,0,none⟩ (.slice A' r.length (p' - 1))).setCell ⟨w.heap.size,0,none⟩ (.int .i64 x.1)) w.heap.size 1 (.string (str x.2))
  have hz:=HZ.out.grown q2 (fun e => n2 (by injection e))
  refine ⟨Lib.heap_setCell_same (i:=1) (Lib.heap_setCell_same (i:=0) hz _) _,(q1.other ga (fun k e => by cases e; exact ⟨by omega,n2⟩)).other gb (fun k e => by cases e; exact ⟨by omega,n2⟩),?_⟩
  have hb:Below w.heap.size w w2:=HBA.out.trans (HB2.out.mono HBA.out.size)
  refine ⟨gb.os.trans (ga.os.trans (q2.os.trans hb.os)),gb.tape.trans (ga.tape.trans (q2.tape.trans hb.tape)),gb.output.trans (ga.output.trans (q2.output.trans hb.output)),Nat.le_trans hb.size (Nat.le_trans q2.size (Nat.le_trans ga.size gb.size)),fun k hk hne => ?_⟩
  have h3:=q2.size
  have h4:=ga.size
  have h5:=hb.size
  exact (gb.block k (by omega) (fun e => by injection e; omega)).trans ((ga.block k (by omega) (fun e => by injection e; omega)).trans ((q2.block k (by omega) hne).trans (hb.block k hk)))
 have HF:=hid FIN
 clear FIN HP hp' hm'
 go_wp2_with fail
 ·have q:=HF.out (some ⟨g', o', none⟩) (fun h' => absurd (by assumption) h') (by simp)
  rw [show p' - 1 = 0 from by omega] at q
  obtain ⟨q1,q2,q3⟩:=q
  refine bodyPost_ret (zMn rfl rfl (q1.loadR Tryz.rowTk Tryz.sizeTk)) rfl ?_
  exact ⟨rfl,q2,q3⟩
 ·obtain ⟨q1,q2,q3⟩:=HF.out (some ⟨g', o' + 2,none⟩) (fun _ => rfl) (by simp)
  refine bodyPost_ret (zMn rfl rfl (q1.loadR Tryz.rowTk Tryz.sizeTk)) rfl ?_
  exact ⟨rfl,q2,q3⟩
theorem KeyMap.map {P:Program} {k e:TypeId} {b n:Nat} {ks:List (List UInt8)} {w:World} (h:KeyMap P k e b n ks w):∃ (o:Obj),w.heap[b]? = some o∧∀ cs E z,o≠.cells cs E z:=by
 obtain ⟨D,⟨es,c,h0,h1⟩,h2⟩:=h
 exact ⟨_,h0,fun _ _ _ e => by cases e⟩
def resL (o:Option (Int × Int)):Int:=(o.map Prod.fst).getD 0
def resE (o:Option (Int × Int)):Int:=(o.map Prod.snd).getD 0
def ReadP (f:Fm) (g B:Nat) (w0:World) (r:Rt) (K:Kept) (ns:List Nd) (e:Ending) (w' : World):Prop :=
 ∃ r' res,readN f [] ns r.plain = (r'.plain,res)∧e = .returned (.tuple #[.int .i64 (resL res),.int .i64 (resE res)])∧BR g B w0 r' K w' ∧ (f≠.top→Stay r r')
abbrev ReadC (n:Nat):Prop:=∀ (f:Fm) (ns:List Nd) (v fv:Value) (g B k:Nat) (w0 w:World) (r:Rt) (K:Kept),sizeL ns≤n→BR g B w0 r K w→FmV f g r K fv→NdV w0 (· < B) v ns→NdsOk ns→EnvA B w0→RtI k r.plain→k + sizeL ns≤1000000 →
 Calls Tryz.prog 67 #[v,fv] w (ReadP f g B w0 r K ns)
def RdI (f:Fm) (fv:Value) (g B:Nat) (w0:World) (r:Rt) (K:Kept) (ns:List Nd) (k m i:Nat) (w:World):Prop :=
 ∃ (ks:List (List UInt8)) (rc:Rt) (o:Obj),BR g B w0 rc ((m,o) :: K) w∧KeyMap Tryz.prog 9 4 m i ks w∧FmV f g rc K fv∧(f≠.top→Stay r rc)∧readN f [] ns r.plain = readN f ks (ns.drop i) rc.plain∧RtI (k + sizeL (ns.take i)) rc.plain
theorem NdsOk.get:∀ {ns:List Nd} (i:Nat) (h:i < ns.length),NdsOk ns→NdOk ns[i]
 | n :: r,0,_,h => by rw [NdsOk] at h; exact h.1
 | n :: r,i + 1,hi,h => by rw [NdsOk] at h; exact NdsOk.get i (by simpa using hi) h.2
theorem take_size {ns:List Nd} {i:Nat} (h:i < ns.length):sizeL (ns.take (i + 1)) = sizeL (ns.take i) + ns[i].size:=by
 rw [List.take_succ_eq_append_getElem h,zHk,sizeL,sizeL,Nat.add_zero]
theorem take_le (ns:List Nd) (i:Nat):sizeL (ns.take i)≤sizeL ns:=by
 conv => rhs; rw [← List.take_append_drop i ns,zHk]
 omega
theorem get_size {ns:List Nd} {i:Nat} (h:i < ns.length):sizeL (ns.take i) + ns[i].size≤sizeL ns:=by rw [← take_size h]; exact take_le ns _
theorem len_size:∀ ns:List Nd,ns.length≤sizeL ns
 | [] => Nat.le_refl _
 | .mk a b c d :: r => by
  have:=len_size r
  simp only [sizeL,Nd.size,List.length_cons]; omega
theorem NdV.below {w w' : World} {B:Nat} {v:Value} {ns:List Nd} (h:NdV w (· < B) v ns) (hb:Below B w w') (hz:w.heap.size≤w'.heap.size):NdV w' (· < B) v ns:=h.frame (fun k hk _ => ⟨hk,hb.block k hk⟩) hz
theorem BR.mapped {g B m:Nat} {w0 w w' : World} {r:Rt} {K K' : Kept} {o:Obj} {i:Nat} {ks:List (List UInt8)} (h:BR g B w0 r K' w) (hm:(m,o) ∈ K') (hK:∀ k ∈ K,k ∈ K' ∧ k.1≠m) (hg:w.grownBy w' (some m)) (hB:B≤m) (hk:KeyMap Tryz.prog 9 4 m i ks w'):∃ o', BR g B w0 r ((m,o') :: K) w' := by
 obtain ⟨o', ho⟩:=hk.obj
 exact ⟨o', (h.less (K' := (m,o) :: K) (fun k hk => (List.mem_cons.1 hk).elim (fun e => e ▸ hm) (fun hk => (hK k hk).1))).map hg ho hB (fun k hk => (hK k hk).2)⟩
theorem node_one {w:World} {S:Nat→Prop} {line:Int} {wv kv:Value} {blk:Bool} {ws:List (List UInt8)} {kids:List Nd} (hw:WdS w S wv ws) (hk:NdV w S kv kids):(#[.int .i64 line,wv,.bool blk,kv]:Array Value).all (·.oneCell') = true:=by
 obtain ⟨A,c,rfl, -⟩:=hw
 obtain ⟨A', c', rfl, -⟩:=hk
 rw [Array.all_eq_true_iff_forall_mem]
 intro v hv
 simp only [List.mem_toArray,List.mem_cons,List.not_mem_nil,or_false] at hv
 rcases hv with rfl | rfl | rfl | rfl <;> rfl
theorem FmV.func {f:Fm} {g:Nat} {r:Rt} {K:Kept} {fv:Value} (h:FmV f g r K fv):∃ F pre cap,fv = .func (.func F) pre cap:=by
 cases f
 all_goals first
  | exact ⟨_,_,_,h⟩
  | (obtain ⟨gg,cap,l0,x,k,e1,e2,e3,e4⟩:=h; exact ⟨_,_,_,e3⟩)
  | (obtain ⟨m0,m,e,gg,cap,l0,x,k,e1,e2,e3,e4⟩:=h; exact ⟨_,_,_,e3⟩)
  | (obtain ⟨k,e1,e2⟩:=h; exact ⟨_,_,_,e1⟩)
  | (obtain ⟨gg,cap,l0,x,k,k2,e1,e2,e3,e4,e5⟩:=h; exact ⟨_,_,_,e3⟩)
mutual
theorem zIv (f:Fm):∀ (ns:List Nd) (keys:List (List UInt8)) (r:Rt) (e:Int × Int),(readN f keys ns r).2 = some e→e.2 = 2∨e.2 = 4
 | [],_,_,e,h => by simp [readN] at h
 | n :: ns,keys,r,e,h => by
  have h1:=readOne_two f n keys r
  simp only [readN] at h
  revert h1 h
  match zBu f keys n r with
  | (r', k', none) => intro h _; exact zIv f ns k' r' e h
  | (r', k', some e') => intro h h1; simp only [Option.some.injEq] at h; subst h; exact h1 _ rfl
theorem readOne_two (f:Fm):∀ (n:Nd) (keys:List (List UInt8)) (r:Rt) (e:Int × Int),(zBu f keys n r).2.2 = some e→e.2 = 2∨e.2 = 4
 | .mk line words blk kids,keys,r,e,h => by
  simp only [zBu] at h
  revert h
  match fmS f blk r ⟨words,false⟩ with
  | (key,inner,r', p) =>
   simp only
   split
   ·intro h; simp only [Option.some.injEq] at h; subst h; exact .inl rfl
   ·split
    ·intro h; simp only [Option.some.injEq] at h; subst h; exact .inr rfl
    ·cases inner with
     | none => intro h; simp at h
     | some g => intro h; exact zIv g kids [] r' e h
end
theorem form_ne0:∀ W:World,(binOp .neq 183 .nilFunc .nilFunc).run Tryz.prog W = .ok (.bool false) W:=fun _ => by kernel_rfl
theorem form_eq0:∀ W:World,(binOp .eql 183 .nilFunc .nilFunc).run Tryz.prog W = .ok (.bool true) W:=fun _ => by kernel_rfl
theorem form_ne1 (F:Nat) (pre cap:Array Value):∀ W:World,(binOp .neq 183 (.func (.func F) pre cap) .nilFunc).run Tryz.prog W = .ok (.bool true) W:=fun _ => by kernel_rfl
theorem form_eq1 (F:Nat) (pre cap:Array Value):∀ W:World,(binOp .eql 183 (.func (.func F) pre cap) .nilFunc).run Tryz.prog W = .ok (.bool false) W:=fun _ => by kernel_rfl
theorem key_empty (l:List UInt8):((str l).toList == []) = l.isEmpty:=by rw [zAb]; cases l <;> rfl
theorem read_step (FC:∀ f,FormC f) (n:Nat) (IH:∀ j,j < n→ReadC j):ReadC n:=by
 intro f ns v fv g B k w0 w r K hsz h hf hn hok he hr hk
 obtain ⟨A0,c0,rfl,hc0,hmx, -⟩:∃ A c,v = .slice A ns.length c∧ns.length≤c∧ns.length≤maxLen∧True:=by obtain ⟨A,c,e,h1,h2, -⟩:=hn; exact ⟨A,c,e,h1,h2,trivial⟩
 have hlen:=len_size ns
 obtain ⟨F0,pre0,cap0,rfl⟩:=hf.func
 have H:=hid h
 have HF:=hid hf
 have HN:=hid (hn.below h.bel h.size)
 have HO:=hid hok
 have HE:=hid he
 have HR:=hid hr
 have HK:=hid hk
 have HIH:=hid IH
 have HFC:=hid FC
 have HSZ:=hid hsz
 have HN0:=hid hn
 have HLN:=hid (Nat.le_trans hlen (Nat.le_trans (Nat.le_add_left _ k) hk))
 clear h hf hn hok he hr hk IH FC hsz hc0 hmx hlen
 have hmk:∀ W,(Instr.makeMap 184 none).run Tryz.prog W = .ok (.map (some W.heap.size)) (W.alloc (.map #[] 0)):=fun _ => rfl
 go_enter Tryz.func67,Tryz.ntmps67
 go_upto_region 2 with (fail)
 clear hmk
 have HM:Hid (KeyMap Tryz.prog 9 4 w.heap.size 0 [] (w.alloc (.map #[] 0))):=hid (KeyMap.made w _ _ _)
 have HB1:=hid ((Below.refl w.heap.size w).alloc (Nat.le_refl _) (.map #[] 0))
 have H1:=hid (H.out.box HB1.out (heap_alloc_new w _) (Nat.le_refl _))
 have HKM:Hid (∀ k ∈ K,k.1≠w.heap.size):=hid (fun k hk => Nat.ne_of_lt (zAw (H.out.keep k hk).1))
 have HBm:Hid (B≤w.heap.size):=hid (Nat.le_trans H.out.bB H.out.size)
 change Code.wp _ _ _ _ (w.alloc (.map #[] 0))
 generalize w.alloc (.map #[] 0) = wA at HM HB1 H1 ⊢
 obtain ⟨m,hm⟩:∃ m,m = w.heap.size:=⟨_,rfl⟩
 simp only [← hm] at HM H1 HKM HBm ⊢
 clear hm
 go_wp2_with fail
 go_loopg [17] ns.length (fun gh ix wr => ∃ j:Nat,j + gh = ns.length∧ix = .int .i64 j∧Hid (RdI f (.func (.func F0) pre0 cap0) g B w0 r K ns k m j wr))
 case atStart => exact ⟨0,by omega,rfl,hid ⟨[],r,_,H1.out,HM.out,HF.out,fun _ => Stay.refl r,rfl,by rw [List.take_zero]; exact HR.out⟩⟩
 case round =>
  clear H1 HM HB1 H
  obtain ⟨j,hj,rfl,HI⟩:=hrel
  by_cases hjl:j < ns.length
  case neg =>
   have hjz:¬ (j:Int) < (ns.length:Int):=by omega
   go_wp2_with fail
   go_ret2
   obtain ⟨ks,rc,o,h1, -, -,h4,h5, -⟩:=HI.out
   refine ⟨rc,none,?_,rfl,h1.less (fun _ hk => List.mem_cons_of_mem _ hk),h4⟩
   rw [h5,List.drop_eq_nil_of_le (by omega)]
   simp [readN]
  case pos =>
   have hjz:(j:Int) < (ns.length:Int):=by omega
   obtain ⟨ks,rc,o,h1,h2,h3,h4,h5,h6⟩:=HI.out
   have H1:=hid h1
   have H2:=hid h2
   have H3:=hid h3
   have H4:=hid h4
   have H6:=hid h6
   have H5:Hid (readN f [] ns r.plain = readN f ks (ns[j] :: ns.drop (j + 1)) rc.plain):=hid (by rw [h5,List.drop_eq_getElem_cons hjl])
   have HOK:=hid (HO.out.get j hjl)
   have HTS:=hid (take_size hjl)
   have HGS:=hid (get_size hjl)
   obtain ⟨gn,cn,cs,ev,hgn,hgl,hnc,hrg0⟩:=HN0.out.at hjl
   have hrg:=zIa hrg0 (h1.bel.block gn hgn)
   injection ev with ev1 ev2 ev3
   subst ev1 ev3
   have HBL:=hid h1.bel
   clear h1 h2 h3 h4 h5 h6 ev2 HI hrg0
   generalize ns[j] = nd at H5 HOK HTS HGS hnc
   obtain ⟨line,ws,blk,kids⟩:=nd
   obtain ⟨wv,kv,rfl,hwd,hkd⟩:=NdC.iff.1 hnc
   have HRG:=hid hrg
   have HWD:=hid hwd
   have HKD:=hid hkd
   rw [NdOk] at HOK
   clear hnc hrg hwd hkd
   go_upto_region 5 with (first | (refine zAa rfl 180 _ rfl rfl HRG.out Tryz.rowNode Tryz.sizeNode ?_) | (refine zAc rfl 180 _ _ rfl rfl (ds:=#[.int .i64 line,wv,.bool blk,kv]) rfl (HasC.new _ _ _) rfl Tryz.sizeNode ?one ?_; (case one => exact node_one HWD.out HKD.out); intro w2 hz1 hz2))
   have HNW:=hid hz1
   have HNB:=hid (zAh hz2)
   have HQ:Hid (BR g B w0 rc ((wr.heap.size,.cells #[.int .i64 line,wv,.bool blk,kv] 180 (0,0)) :: (m,o) :: K) w2):=hid (H1.out.box HNB.out hz1 (Nat.le_refl _))
   have HKM2:=hid (H2.out.blk ((HQ.out.keep (m,o) (by simp)).1.trans (H1.out.keep (m,o) (by simp)).1.symm))
   have HWD2:=hid (HWD.out.frame (w' := w2) (S' := (· < B)) (fun k hk _ => ⟨hk,HQ.out.bel.block k hk⟩) HQ.out.size)
   obtain ⟨q,hq⟩:∃ q,q = wr.heap.size:=⟨_,rfl⟩
   simp only [← hq] at HNW HQ ⊢
   have HQR:Hid (wr.heap.size≤q):=hid (by omega)
   have HQM:Hid (q≠m):=hid (fun e => by have:=zAw (H1.out.keep (m,o) List.mem_cons_self).1; have:=HQR.out; dsimp only at *; omega)
   clear hz1 hz2 hq HWD HRG H1 H2 HBL
   obtain ⟨Aw,cw,ew,hcw⟩:∃ A c,wv = .slice A ws.length c∧ws.length≤c:=(HWD2.out.slc (fun _ h => h)).2
   subst ew
   obtain ⟨Ak,ck,ek,hck⟩:∃ A c,kv = .slice A kids.length c∧True:=by obtain ⟨A,c,e, -⟩:=HKD.out; exact ⟨A,c,e,trivial⟩
   subst ek
   have cq1:=HNW.out.cell 1
   have cq2:=HNW.out.cell 2
   go_upto_region 6 with (fail)
   have HWN:=hid (HasC.new w2 187 #[.slice Aw ws.length cw,.bool blk,.bool false])
   have HB3:=hid ((Below.refl w2.heap.size w2).alloc (Nat.le_refl _) (.cells #[.slice Aw ws.length cw,.bool blk,.bool false] 187))
   have hBw:B≤w2.heap.size:=Nat.le_trans HQ.out.bB HQ.out.size
   change Code.wp _ _ _ _ (w2.alloc (.cells #[.slice Aw ws.length cw,.bool blk,.bool false] 187))
   generalize w2.alloc (.cells #[.slice Aw ws.length cw,.bool blk,.bool false] 187) = w3 at HWN HB3 ⊢
   have HBW:=hid (HQ.out.words (T:=(187,blk)) ((HWD2.out.slc (fun _ h => h)).1.below (HB3.out.mono hBw)) ⟨Aw,cw,rfl,hcw⟩ HB3.out HWN.out (Nat.le_refl _))
   clear hBw HWN cq1 cq2
   generalize w2.heap.size = bq at HBW ⊢
   obtain ⟨F,pre,cap,efv,heg,hcall⟩:=HFC.out f g B bq (k + sizeL (ns.take j)) w0 w3 rc _ blk ⟨ws,false⟩ (.func (.func F0) pre0 cap0) HBW.out (H3.out.mono (fun k hk => List.mem_cons_of_mem _ (List.mem_cons_of_mem _ hk))) HE.out HOK.2.1 H6.out (by have:=HK.out; have:=HGS.out; have:=HSZ.out; omega)
   injection efv with ef1 ef2 ef3
   injection ef1 with ef1
   subst ef1 ef2 ef3
   have HC:=hid hcall
   clear hcall
   go_wp2_with fail
   refine HC.out.mono ?_
   rintro e w4 ⟨key,inner,r', p', K', iv,hq', rfl,hbw,hst,hfm,hinn,hnew⟩
   have HBX:=hid hbw
   have HST:=hid hst
   have HFM:=hid (hfm K H3.out)
   have HIN:=hid hinn
   have HNE:=hid hnew
   have HQ' := hid hq'
   have HKY:Hid (key.length≤2000000100):=hid (by have:=fm_key (f:=f) (blk:=blk) (r:=rc.plain) (p:=⟨ws,false⟩) HOK.2.1; rw [hq'] at this; exact this)
   have HRI:Hid (RtI (k + sizeL (ns.take j) + 1) r'.plain):=hid (by have:=fmS_ok f blk H6.out ⟨ws,false⟩; rw [hq'] at this; exact this)
   have HKM4:=hid (HKM2.out.blk ((hbw.keep (m,o) (by simp)).1.trans (HQ.out.keep (m,o) (by simp)).1.symm))
   have HNQ:Hid (HasC 180 q #[.int .i64 line,.slice Aw ws.length cw,.bool blk,.slice Ak kids.length ck] w4):=hid (hbw.keep (q,_) (by simp)).1
   clear hbw hst hfm hinn hnew hq' HC heg HBW HB3 HQ HKM2 HNW HNB
   have cq0:w4.cell? ⟨q,0,none⟩ = some (.int .i64 line):=HNQ.out.cell 0
   have cq2:w4.cell? ⟨q,2,none⟩ = some (.bool blk):=HNQ.out.cell 2
   have cq3:w4.cell? ⟨q,3,none⟩ = some (.slice Ak kids.length ck):=HNQ.out.cell 3
   go_wp2_with fail
   refine (wdone_any bq B p' w4 HBX.out.st).mono ?_
   rintro e _ ⟨rfl,rfl⟩
   cases hd:doneB p' with
   | false =>
    go_wp2_with fail
    go_ret2
    exact ⟨r', some (line,2),by rw [H5.out]; exact readN_bad HQ'.out (by rw [hd]; rfl),rfl,HBX.out.toBR.less (fun x hx => by simp [hx]),fun h => (H4.out h).trans (HST.out h)⟩
   | true =>
    cases inner with
    | none =>
     obtain rfl:iv = .nilFunc:=HIN.out
     have fn0:=form_ne0
     have fe0:=form_eq0
     cases blk with
     | true =>
      go_wp2_with fail
      go_ret2
      exact ⟨r', some (line,2),by rw [H5.out]; exact readN_bad HQ'.out (by rw [hd]; rfl),rfl,HBX.out.toBR.less (fun x hx => by simp [hx]),fun h => (H4.out h).trans (HST.out h)⟩
     | false =>
      have hb:(!doneB p' || false != (none:Option Fm).isSome) = false:=by rw [hd]; rfl
      have HE0:=key_empty key
      unfold strV
      cases he:key.isEmpty with
      | true =>
       rw [he] at HE0
       have hk:(!key.isEmpty && ks.contains key) = false:=by rw [he]; rfl
       go_wp2_with (refine zFw w4 rfl _ _ _ _ rfl 9 4 Tryz.underlying9 Tryz.underlying184 Tryz.underlying4 m j ks rfl HKM4.out (by have:=HLN.out; simp only [maxLen]; omega) key rfl rfl (by have:=HKY.out; simp only [maxLen]; omega) ?_; intro w5 hk5 hg5; have HK5:=hid hk5; have HG5:=hid hg5; have cw3:w5.cell? ⟨q,3,none⟩ = some (.slice Ak kids.length ck):=(HNQ.out.grown hg5 (fun e => HQM.out (by injection e))).cell 3; clear hk5 hg5)
       have kne:∀ x ∈ K' ++ K,x.1≠m:=fun x hx e => by
        rcases List.mem_append.1 hx with hx1 | hx1
        ·obtain ⟨cs,E,he2⟩:=HNE.out x hx1
         obtain ⟨ob,hob,hnm⟩:=HKM4.out.map
         have h1:=(HBX.out.keep x (by simp [hx1])).1
         rw [he2,e,hob] at h1
         injection h1 with h1
         exact hnm _ _ _ h1
        ·exact HKM.out x hx1 e
       obtain ⟨o', hm5⟩:∃ o', BR g B w0 r' ((m,o') :: (K' ++ K)) w5:=HBX.out.toBR.mapped (m:=m) (o:=o) (by simp) (fun x hx => ⟨by rcases List.mem_append.1 hx with hx1 | hx1 <;> simp [hx1],kne x hx⟩) HG5.out HBm.out HK5.out
       have HM5:=hid hm5
       clear hm5 kne
       have hln:=HLN.out
       go_roundg (ns.length - (j + 1))
       case measure => omega
       case rel =>
        refine ⟨j + 1,by omega,by rw [IntWalk.wrap64_in _ ⟨by omega,by omega⟩]; rfl,hid ⟨key :: ks,r', o', HM5.out.less (fun x hx => by rcases List.mem_cons.1 hx with h | h <;> simp [h]),HK5.out,HFM.out,fun h => (H4.out h).trans (HST.out h),?_,HRI.out.le (by have:=HTS.out; simp only [Nd.size] at this; omega)⟩⟩
        rw [H5.out]
        exact readN_leaf HQ'.out hb hk
      | false =>
       rw [he] at HE0
       cases hc:ks.contains key with
       | true =>
        have hk:(!key.isEmpty && ks.contains key) = true:=by rw [he,hc]; rfl
        go_wp2_with (refine zAm (by rfl) (zFk w4 rfl _ _ _ rfl 9 4 Tryz.underlying9 Tryz.underlying184 Tryz.underlying4 rfl m j ks rfl HKM4.out key rfl (by have:=HKY.out; simp only [maxLen]; omega) ?_); rw [hc])
        go_ret2
        exact ⟨r', some (line,4),by rw [H5.out]; exact readN_dup HQ'.out hb hk,rfl,HBX.out.toBR.less (fun x hx => by simp [hx]),fun h => (H4.out h).trans (HST.out h)⟩
       | false =>
        have hk:(!key.isEmpty && ks.contains key) = false:=by rw [he,hc]; rfl
        go_wp2_with (first | (refine zAm (by rfl) (zFk w4 rfl _ _ _ rfl 9 4 Tryz.underlying9 Tryz.underlying184 Tryz.underlying4 rfl m j ks rfl HKM4.out key rfl (by have:=HKY.out; simp only [maxLen]; omega) ?_); rw [hc]) | (refine zFw w4 rfl _ _ _ _ rfl 9 4 Tryz.underlying9 Tryz.underlying184 Tryz.underlying4 m j ks rfl HKM4.out (by have:=HLN.out; simp only [maxLen]; omega) key rfl rfl (by have:=HKY.out; simp only [maxLen]; omega) ?_; intro w5 hk5 hg5; have HK5:=hid hk5; have HG5:=hid hg5; have cw3:w5.cell? ⟨q,3,none⟩ = some (.slice Ak kids.length ck):=(HNQ.out.grown hg5 (fun e => HQM.out (by injection e))).cell 3; clear hk5 hg5))
        have kne:∀ x ∈ K' ++ K,x.1≠m:=fun x hx e => by
         rcases List.mem_append.1 hx with hx1 | hx1
         ·obtain ⟨cs,E,he2⟩:=HNE.out x hx1
          obtain ⟨ob,hob,hnm⟩:=HKM4.out.map
          have h1:=(HBX.out.keep x (by simp [hx1])).1
          rw [he2,e,hob] at h1
          injection h1 with h1
          exact hnm _ _ _ h1
         ·exact HKM.out x hx1 e
        obtain ⟨o', hm5⟩:∃ o', BR g B w0 r' ((m,o') :: (K' ++ K)) w5:=HBX.out.toBR.mapped (m:=m) (o:=o) (by simp) (fun x hx => ⟨by rcases List.mem_append.1 hx with hx1 | hx1 <;> simp [hx1],kne x hx⟩) HG5.out HBm.out HK5.out
        have HM5:=hid hm5
        clear hm5 kne
        have hln:=HLN.out
        go_roundg (ns.length - (j + 1))
        case measure => omega
        case rel =>
         refine ⟨j + 1,by omega,by rw [IntWalk.wrap64_in _ ⟨by omega,by omega⟩]; rfl,hid ⟨key :: ks,r', o', HM5.out.less (fun x hx => by rcases List.mem_cons.1 hx with h | h <;> simp [h]),HK5.out,HFM.out,fun h => (H4.out h).trans (HST.out h),?_,HRI.out.le (by have:=HTS.out; simp only [Nd.size] at this; omega)⟩⟩
         rw [H5.out]
         exact readN_leaf HQ'.out hb hk
    | some h =>
     obtain ⟨F1,pre1,cap1,rfl⟩:=HIN.out.2.2.func
     have fn1:=form_ne1 F1 pre1 cap1
     have fe1:=form_eq1 F1 pre1 cap1
     have HIO:Hid (h≠.top∧f.outer = true):=hid ⟨HIN.out.1,HIN.out.2.1⟩
     have HIV:=hid HIN.out.2.2
     clear HIN
     cases blk with
     | false =>
      go_wp2_with fail
      go_ret2
      exact ⟨r', some (line,2),by rw [H5.out]; exact readN_bad HQ'.out (by rw [hd]; rfl),rfl,HBX.out.toBR.less (fun x hx => by simp [hx]),fun h => (H4.out h).trans (HST.out h)⟩
     | true =>
      have hb:(!doneB p' || true != (some h).isSome) = false:=by rw [hd]; rfl
      have HE0:=key_empty key
      unfold strV
      cases he:key.isEmpty with
      | true =>
       rw [he] at HE0
       have hk:(!key.isEmpty && ks.contains key) = false:=by rw [he]; rfl
       go_wp2_with (refine zFw w4 rfl _ _ _ _ rfl 9 4 Tryz.underlying9 Tryz.underlying184 Tryz.underlying4 m j ks rfl HKM4.out (by have:=HLN.out; simp only [maxLen]; omega) key rfl rfl (by have:=HKY.out; simp only [maxLen]; omega) ?_; intro w5 hk5 hg5; have HK5:=hid hk5; have HG5:=hid hg5; have cw3:w5.cell? ⟨q,3,none⟩ = some (.slice Ak kids.length ck):=(HNQ.out.grown hg5 (fun e => HQM.out (by injection e))).cell 3; clear hk5 hg5)
       have kne:∀ x ∈ K' ++ K,x.1≠m:=fun x hx e => by
        rcases List.mem_append.1 hx with hx1 | hx1
        ·obtain ⟨cs,E,he2⟩:=HNE.out x hx1
         obtain ⟨ob,hob,hnm⟩:=HKM4.out.map
         have h1:=(HBX.out.keep x (by simp [hx1])).1
         rw [he2,e,hob] at h1
         injection h1 with h1
         exact hnm _ _ _ h1
        ·exact HKM.out x hx1 e
       obtain ⟨o', hm5⟩:∃ o', BR g B w0 r' ((m,o') :: (K' ++ K)) w5:=HBX.out.toBR.mapped (m:=m) (o:=o) (by simp) (fun x hx => ⟨by rcases List.mem_append.1 hx with hx1 | hx1 <;> simp [hx1],kne x hx⟩) HG5.out HBm.out HK5.out
       have HM5:=hid hm5
       clear hm5 kne
       have hsz' : sizeL kids < n:=by have:=HGS.out; have:=HSZ.out; simp only [Nd.size] at *; omega
       have HRC:=hid (HIH.out (sizeL kids) hsz' h kids (.slice Ak kids.length ck) (.func (.func F1) pre1 cap1) g B (k + sizeL (ns.take j) + 1) w0 w5 r' ((m,o') :: (K' ++ K)) (Nat.le_refl _) HM5.out (HIV.out.mono (fun x hx => by simp [hx])) HKD.out HOK.2.2 HE.out HRI.out (by have:=HGS.out; have:=HK.out; simp only [Nd.size] at *; omega))
       refine HRC.out.mono ?_
       rintro e w6 ⟨r2,res,hq2,rfl,hbr2,hst2⟩
       have HBR2:=hid hbr2
       have HST2:=hid (hst2 HIO.out.1)
       have HQ2:=hid hq2
       clear hbr2 hst2 hq2 HRC
       cases res with
       | some e' =>
        obtain ⟨le,ce⟩:=e'
        have he2:ce = 2∨ce = 4:=zIv h kids [] r'.plain (le,ce) (by rw [HQ2.out])
        rw [show resL (some (le,ce)) = le from rfl,show resE (some (le,ce)) = ce from rfl]
        have hz:(ce != 0) = true:=by rcases he2 with rfl | rfl <;> rfl
        go_wp2_with fail
        go_ret2
        exact ⟨r2,some (le,ce),by rw [H5.out]; exact readN_inbad HQ'.out hb hk HQ2.out,rfl,HBR2.out.less (fun x hx => by simp [hx]),fun h => ((H4.out h).trans (HST.out h)).trans HST2.out⟩
       | none =>
        rw [show resL none = 0 from rfl,show resE none = 0 from rfl]
        go_wp2_with fail
        have hln:=HLN.out
        go_roundg (ns.length - (j + 1))
        case measure => omega
        case rel =>
         refine ⟨j + 1,by omega,by rw [IntWalk.wrap64_in _ ⟨by omega,by omega⟩]; rfl,hid ⟨key :: ks,r2,o', HBR2.out.less (fun x hx => by rcases List.mem_cons.1 hx with h | h <;> simp [h]),HK5.out.blk ((HBR2.out.keep (m,o') (by simp)).1.trans (HM5.out.keep (m,o') (by simp)).1.symm),HFM.out.stay HIO.out.2 HST2.out (fun _ h => h),fun h => ((H4.out h).trans (HST.out h)).trans HST2.out,?_,?_⟩⟩
         ·rw [H5.out]
          exact readN_in HQ'.out hb hk HQ2.out
         ·have h1:=zLh h kids [] r'.plain _ HRI.out
          rw [HQ2.out] at h1
          exact h1.le (by have:=HTS.out; simp only [Nd.size] at this; omega)
      | false =>
       rw [he] at HE0
       cases hc:ks.contains key with
       | true =>
        have hk:(!key.isEmpty && ks.contains key) = true:=by rw [he,hc]; rfl
        go_wp2_with (refine zAm (by rfl) (zFk w4 rfl _ _ _ rfl 9 4 Tryz.underlying9 Tryz.underlying184 Tryz.underlying4 rfl m j ks rfl HKM4.out key rfl (by have:=HKY.out; simp only [maxLen]; omega) ?_); rw [hc])
        go_ret2
        exact ⟨r', some (line,4),by rw [H5.out]; exact readN_dup HQ'.out hb hk,rfl,HBX.out.toBR.less (fun x hx => by simp [hx]),fun h => (H4.out h).trans (HST.out h)⟩
       | false =>
        have hk:(!key.isEmpty && ks.contains key) = false:=by rw [he,hc]; rfl
        go_wp2_with (first | (refine zAm (by rfl) (zFk w4 rfl _ _ _ rfl 9 4 Tryz.underlying9 Tryz.underlying184 Tryz.underlying4 rfl m j ks rfl HKM4.out key rfl (by have:=HKY.out; simp only [maxLen]; omega) ?_); rw [hc]) | (refine zFw w4 rfl _ _ _ _ rfl 9 4 Tryz.underlying9 Tryz.underlying184 Tryz.underlying4 m j ks rfl HKM4.out (by have:=HLN.out; simp only [maxLen]; omega) key rfl rfl (by have:=HKY.out; simp only [maxLen]; omega) ?_; intro w5 hk5 hg5; have HK5:=hid hk5; have HG5:=hid hg5; have cw3:w5.cell? ⟨q,3,none⟩ = some (.slice Ak kids.length ck):=(HNQ.out.grown hg5 (fun e => HQM.out (by injection e))).cell 3; clear hk5 hg5))
        have kne:∀ x ∈ K' ++ K,x.1≠m:=fun x hx e => by
         rcases List.mem_append.1 hx with hx1 | hx1
         ·obtain ⟨cs,E,he2⟩:=HNE.out x hx1
          obtain ⟨ob,hob,hnm⟩:=HKM4.out.map
          have h1:=(HBX.out.keep x (by simp [hx1])).1
          rw [he2,e,hob] at h1
          injection h1 with h1
          exact hnm _ _ _ h1
         ·exact HKM.out x hx1 e
        obtain ⟨o', hm5⟩:∃ o', BR g B w0 r' ((m,o') :: (K' ++ K)) w5:=HBX.out.toBR.mapped (m:=m) (o:=o) (by simp) (fun x hx => ⟨by rcases List.mem_append.1 hx with hx1 | hx1 <;> simp [hx1],kne x hx⟩) HG5.out HBm.out HK5.out
        have HM5:=hid hm5
        clear hm5 kne
        have hsz' : sizeL kids < n:=by have:=HGS.out; have:=HSZ.out; simp only [Nd.size] at *; omega
        have HRC:=hid (HIH.out (sizeL kids) hsz' h kids (.slice Ak kids.length ck) (.func (.func F1) pre1 cap1) g B (k + sizeL (ns.take j) + 1) w0 w5 r' ((m,o') :: (K' ++ K)) (Nat.le_refl _) HM5.out (HIV.out.mono (fun x hx => by simp [hx])) HKD.out HOK.2.2 HE.out HRI.out (by have:=HGS.out; have:=HK.out; simp only [Nd.size] at *; omega))
        refine HRC.out.mono ?_
        rintro e w6 ⟨r2,res,hq2,rfl,hbr2,hst2⟩
        have HBR2:=hid hbr2
        have HST2:=hid (hst2 HIO.out.1)
        have HQ2:=hid hq2
        clear hbr2 hst2 hq2 HRC
        cases res with
        | some e' =>
         obtain ⟨le,ce⟩:=e'
         have he2:ce = 2∨ce = 4:=zIv h kids [] r'.plain (le,ce) (by rw [HQ2.out])
         rw [show resL (some (le,ce)) = le from rfl,show resE (some (le,ce)) = ce from rfl]
         have hz:(ce != 0) = true:=by rcases he2 with rfl | rfl <;> rfl
         go_wp2_with fail
         go_ret2
         exact ⟨r2,some (le,ce),by rw [H5.out]; exact readN_inbad HQ'.out hb hk HQ2.out,rfl,HBR2.out.less (fun x hx => by simp [hx]),fun h => ((H4.out h).trans (HST.out h)).trans HST2.out⟩
        | none =>
         rw [show resL none = 0 from rfl,show resE none = 0 from rfl]
         go_wp2_with fail
         have hln:=HLN.out
         go_roundg (ns.length - (j + 1))
         case measure => omega
         case rel =>
          refine ⟨j + 1,by omega,by rw [IntWalk.wrap64_in _ ⟨by omega,by omega⟩]; rfl,hid ⟨key :: ks,r2,o', HBR2.out.less (fun x hx => by rcases List.mem_cons.1 hx with h | h <;> simp [h]),HK5.out.blk ((HBR2.out.keep (m,o') (by simp)).1.trans (HM5.out.keep (m,o') (by simp)).1.symm),HFM.out.stay HIO.out.2 HST2.out (fun _ h => h),fun h => ((H4.out h).trans (HST.out h)).trans HST2.out,?_,?_⟩⟩
          ·rw [H5.out]
           exact readN_in HQ'.out hb hk HQ2.out
          ·have h1:=zLh h kids [] r'.plain _ HRI.out
           rw [HQ2.out] at h1
           exact h1.le (by have:=HTS.out; simp only [Nd.size] at this; omega)
theorem read_all (FC:∀ f,FormC f):∀ n,ReadC n:=fun n => by
 induction n using Nat.strongRecOn with
 | ind n ih => exact read_step FC n ih
abbrev NodC (N:Nat):Prop:=∀ (c B m:Nat) (lines:Int) (x:Tk) (t:List Tk) (w:World),t.length + 1≤N→t.length + 1≤65536→2 * (t.length + 1) + 1≤m→Cu c B lines (x :: t) w→Calls Tryz.prog 134 #[.pointer (some ⟨c,0,none⟩)] w (NodeP c B lines (nodeN lines m x.1 (x :: t) []) w)
abbrev SeqC (N:Nat):Prop:=∀ (c B m:Nat) (lines:Int) (inner:Bool) (t:List Tk) (w:World),t.length≤N→t.length≤65536→2 * t.length + 2≤m→Cu c B lines t w→Calls Tryz.prog 66 #[.pointer (some ⟨c,0,none⟩),.bool inner] w (SeqP c B lines (seqN lines m inner t []) w)
def SqI (c B:Nat) (lines:Int) (inner:Bool) (m:Nat) (t:List Tk) (w:World) (v:Value) (t' : List Tk) (wr:World):Prop :=
 ∃ (m' : Nat) (ns:List Nd) (css:List Value),seqN lines m inner t [] = seqN lines m' inner t' ns∧2 * t'.length + 2≤m' ∧ Cu c B lines t' wr∧w.grownBy wr (some c)∧wr.ownsRow w.heap.size 180 4 v ns.length css∧NdsC wr (fun k => w.heap.size≤k∧v.ownBlock≠some k) ns css∧t'.length + ns.length≤t.length
theorem zDk {w w1 w2:World} {r:Option Nat} (h:w.grownBy w1 r) (h' : w1.grownBy w2 r):w.grownBy w2 r :=
 ⟨h'.os.trans h.os,h'.tape.trans h.tape,h'.output.trans h.output,Nat.le_trans h.size h'.size,fun k hk hne => (h'.block k (Nat.lt_of_lt_of_le hk h.size) hne).trans (h.block k hk hne)⟩
theorem own_form4 {w:World} {B:Nat} {T:TypeId} {v:Value} {n:Nat} {css:List Value} (h:w.ownsRow B T 4 v n css):∃ A cap,v = .slice A n cap:=by
 rcases h.2 with ⟨e,h0⟩ | ⟨g,cap,cur,e, -⟩
 ·exact ⟨none,0,by rw [h0]; exact e⟩
 ·exact ⟨_,_,e⟩
theorem zLi {w:World} {B:Nat} {T:TypeId} {v:Value} {n:Nat} {css:List Value} (h:w.ownsRow B T 4 v n css) {k:Nat} (hk:v.ownBlock = some k):B≤k∧k < w.heap.size:=by
 rcases h.2 with ⟨e,h0⟩ | ⟨g,cap,cur,e,h2,h3, -⟩
 ·rw [e] at hk; cases hk
 ·rw [e] at hk
  injection hk with hk
  subst hk
  exact ⟨h2,zAw h3⟩
theorem seq_step (N:Nat) (NC:NodC N):SeqC N:=by
 intro c B m lines inner t w hN h6 hm h
 have H:=hid h
 have HN:=hid NC
 have HH:=hid (show t.length≤N∧t.length≤65536∧2 * t.length + 2≤m from ⟨hN,h6,hm⟩)
 have hcl:=h.lt
 clear h NC hN h6 hm
 go_enter Tryz.func66,Tryz.ntmps66
 go_wp2_with fail
 go_loopg [7] t.length (fun gh v wr => ∃ t' : List Tk,gh = t'.length∧Hid (SqI c B lines inner m t w v t' wr))
 case atStart => exact ⟨t,rfl,hid ⟨m,[],[],rfl,HH.out.2.2,H.out,World.grownBy.refl _ _,World.ownsRow_nil _ _ _ _,by rw [NdsC],by simp⟩⟩
 case round =>
  obtain ⟨t', rfl,HI⟩:=hrel
  obtain ⟨m', ns,css,e1,e2,e3,e4,e5,e6,e7⟩:=HI.out
  obtain ⟨A0,k0,rfl⟩:=own_form4 e5
  have E1:=hid e1
  have E3:=hid e3
  have E4:=hid e4
  have E5:=hid e5
  have E6:=hid e6
  clear e1 e3 e4 e5 e6 HI
  cases t' with
  | nil =>
   obtain ⟨A,p,c0⟩:=E3.out.rest0
   have cl:=E3.out.linesC
   obtain ⟨n', rfl⟩:∃ n', m' = n' + 1:=⟨m' - 1,by omega⟩
   have ES:=E1.out
   rw [seqN] at ES
   have HES:=hid ES
   clear ES
   rw [List.length_nil] at c0
   cases inner with
   | true =>
    go_wp2_with fail
    go_region_law (fail)
    all_goals
     go_wp2_with fail
     go_ret3
     refine ⟨⟨E4.out.os,E4.out.tape,E4.out.output,E4.out.size,E4.out.block⟩,?_⟩
     rw [HES.out]
     rfl
   | false =>
    go_wp2_with fail
    go_ret3
    refine ⟨E4.out,?_⟩
    rw [HES.out]
    exact ⟨_,rfl,NdV.own E5.out (NdsC.frame (fun k hk _ => ⟨hk.1,rfl⟩) (Nat.le_refl _) _ _ E6.out) (fun k hk => (zLi E5.out hk).1),E3.out⟩
  | cons y r =>
   obtain ⟨g,o,p,hv,c1,c2,hr,hp,hmx, -⟩:=E3.out.popped
   have c0:wr.cell? ⟨c,0,none⟩ = some (.slice (some ⟨g,o,none⟩) (r.length + 1) p):=by rw [Lib.cell_of_heap hv]; rfl
   obtain ⟨n', rfl⟩:∃ n', m' = n' + 1:=⟨m' - 1,by omega⟩
   have ES:=E1.out
   rw [seqN] at ES
   have HES:=hid ES
   have hi:(0:Int) < (r.length:Int) + 1:=by omega
   have q1:((str y.2).toList == [125]) = (y.2 == [125]):=by rw [zAb]
   rw [List.length_cons] at e2 e7
   unfold strV at c2
   unfold maxLen at hmx
   clear ES hr hv
   cases hb:(inner && y.2 == [125]) with
   | true =>
    have hin:inner = true:=by revert hb; cases inner <;> simp
    have hy:(y.2 == [125]) = true:=by revert hb; cases inner <;> simp
    subst hin
    rw [hy] at q1
    have HB:=hid hb
    clear hb hy
    go_wp2_with fail
    refine (cnext_any E3.out).mono ?_
    rintro e w2 ⟨rfl,h2,k2⟩
    have H2:=hid h2
    have K2:=hid k2
    clear h2 k2
    go_wp2_with fail
    go_ret3
    refine ⟨zDk E4.out K2.out,?_⟩
    rw [HES.out,if_pos HB.out]
    have hN:=NdV.own E5.out (NdsC.frame (S' := (w.heap.size≤·)) (fun k hk _ => ⟨hk.1,rfl⟩) (Nat.le_refl _) _ _ E6.out) (fun k hk => (zLi E5.out hk).1)
    exact ⟨_,rfl,hN.frame (fun k hk hl => ⟨hk,K2.out.block k hl (fun e => by injection e with e; omega)⟩) K2.out.size,H2.out⟩
   | false =>
    rw [if_neg (by rw [hb]; decide)] at HES
    obtain ⟨hL1,hL2,hL3⟩:=HH.out
    have HX:=hid (HN.out c B n' lines y r wr (by omega) (by omega) (by omega) E3.out)
    have hW:inner = false∨inner = true∧(y.2 == [125]) = false:=by revert hb; cases inner <;> simp
    clear hb
    rcases hW with rfl | ⟨rfl,hy⟩
    case' inr => rw [hy] at q1
    all_goals
     go_wp2_with fail
     refine HX.out.mono ?_
     rintro e w2 ⟨hg2,hm2⟩
     have K2:=hid (zDk E4.out hg2)
     have G2:=hid hg2
     clear hg2 c0 c1 c2 HX
     generalize hnd:nodeN lines n' y.1 (y :: r) [] = nd at hm2
     rw [hnd] at HES
     have HND:=hid hnd
     clear hnd
     cases nd with
     | error l =>
      obtain rfl:e = _:=hm2
      go_wp2_with fail
      go_ret3
      refine ⟨⟨K2.out.os,K2.out.tape,K2.out.output,Nat.le_trans K2.out.size (by simp),fun k hk hne => (Below.heap_alloc _ _ k (Nat.lt_of_lt_of_le hk K2.out.size)).trans (K2.out.block k hk hne)⟩,?_⟩
      rw [HES.out]
      rfl
     | ok a =>
      obtain ⟨n1,r1⟩:=a
      obtain ⟨cs,rfl,hn1,hc1⟩:=hm2
      obtain ⟨line,ws,blk,kids⟩:=n1
      have HN1:=hid hn1
      obtain ⟨wv,kv,ecs,hwd,hkd⟩:=NdC.iff.1 hn1
      obtain rfl:cs = #[.int .i64 line,wv,.bool blk,kv]:=Array.toList_inj.1 (by rw [ecs])
      have H2:=hid hc1
      obtain ⟨Aw,cw,rfl, -⟩:=id hwd
      obtain ⟨Ak,ck,rfl, -⟩:=id hkd
      clear hn1 hc1 ecs hwd hkd
      go_upto_region 7 with (fail)
      obtain ⟨i0,z0,hi0,hz0,hk0,hs0,hb0⟩:=zLq Tryz.infoNode
      have Hi0:=hid hi0
      have Hz0:=hid hz0
      have Hk0:=hid hk0
      have Hs0:=hid hs0
      have Hb0:=hid hb0
      clear hi0 hz0 hk0 hs0 hb0
      have HC3:=hid (HasC.new w2 180 #[.int .i64 line,.slice Aw ws.length cw,.bool blk,.slice Ak kids.length ck])
      have HB3:=hid ((Below.refl w2.heap.size w2).alloc (Nat.le_refl _) (.cells #[.int .i64 line,.slice Aw ws.length cw,.bool blk,.slice Ak kids.length ck] 180))
      change Code.wp _ _ _ _ (w2.alloc (.cells #[.int .i64 line,.slice Aw ws.length cw,.bool blk,.slice Ak kids.length ck] 180))
      generalize w2.alloc (.cells #[.int .i64 line,.slice Aw ws.length cw,.bool blk,.slice Ak kids.length ck] 180) = w3 at HC3 HB3 ⊢
      have x0:w3.cell? ⟨w2.heap.size,0,none⟩ = some (.int .i64 line):=HC3.out.cell 0
      have x1:w3.cell? ⟨w2.heap.size,1,none⟩ = some (.slice Aw ws.length cw):=HC3.out.cell 1
      have x2:w3.cell? ⟨w2.heap.size,2,none⟩ = some (.bool blk):=HC3.out.cell 2
      have x3:w3.cell? ⟨w2.heap.size,3,none⟩ = some (.slice Ak kids.length ck):=HC3.out.cell 3
      have R3:w3.ownsRow w.heap.size 180 4 (.slice A0 ns.length k0) ns.length css:=(E5.out.kept G2.out (.inr (fun e => by have:=(zLi E5.out e).1; omega))).kept (zDy (Nat.le_refl _) HB3.out none) (by
       cases hx:(Value.slice A0 ns.length k0).ownBlock with
       | none => exact .inl rfl
       | some k => exact .inr (by simp))
      have hsz2:=G2.out.size
      have hsz3:=HB3.out.size
      have hszr:=E4.out.size
      have N3:Hid (NdsC w3 (fun k => w.heap.size≤k∧(Value.slice A0 ns.length k0).ownBlock≠some k) ns css):=hid (NdsC.frame (fun k hk hl => ⟨hk,(HB3.out.block k (by omega)).trans (G2.out.block k hl (fun e => by injection e with e; have:=hk.1; omega))⟩) (by omega) _ _ E6.out)
      have M3:Hid (NdC w3 (fun k => w.heap.size≤k∧(Value.slice A0 ns.length k0).ownBlock≠some k) (.mk line ws blk kids) [.int .i64 line,.slice Aw ws.length cw,.bool blk,.slice Ak kids.length ck]):=hid (NdC.frame (fun k hk hl => ⟨⟨by omega,fun e => by have:=(zLi E5.out e).2; omega⟩,HB3.out.block k hl⟩) (by omega) _ _ HN1.out)
      have HR3:=hid R3
      have hlen:=(seq_len lines n').2 y.1 (y :: r) [] _ r1 HND.out
      rw [List.length_cons] at hlen
      clear R3 HC3
      go_wp2_with (at_builtin; refine zJc w3 rfl _ _ _ rfl w.heap.size _ i0 _ _ _ Tryz.underlying119 Hi0.out Hz0.out Hs0.out Hb0.out Hk0.out (by decide) (.slice A0 ns.length k0) ns.length _ rfl HR3.out #[.int .i64 line,.slice Aw ws.length cw,.bool blk,.slice Ak kids.length ck] rfl rfl (fun u hu => by simp only [List.mem_cons,List.not_mem_nil,or_false] at hu; rcases hu with rfl | rfl | rfl | rfl <;> rfl) (by omega) (by decide) (by omega) ?_; intro v5 w5 ho5 hg5 hat5)
      have hb5:∀ k,(Value.slice A0 ns.length k0).ownBlock = some k→w.heap.size≤k∧k < wr.heap.size:=fun k hk => zLi E5.out hk
      go_roundg r1.length
      case measure => omega
      case rel =>
       have hcB:=E3.out.1
       refine ⟨r1,rfl,hid ⟨n', ns ++ [.mk line ws blk kids],css ++ [.int .i64 line,.slice Aw ws.length cw,.bool blk,.slice Ak kids.length ck],HES.out,by omega,(H2.out.keep HB3.out).other hg5 (fun k hk => ⟨by have:=(hb5 k hk).1; omega,by have:=(hb5 k hk).1; omega⟩),?_,by simpa using ho5,NdsC.snoc (NdsC.frame (fun k hk hl => ⟨⟨hk.1,fun e => ?_⟩,hg5.block k hl (fun e => hk.2 e.symm)⟩) hg5.size _ _ N3.out) (NdC.frame (fun k hk hl => ⟨⟨hk.1,fun e => ?_⟩,hg5.block k hl (fun e => hk.2 e.symm)⟩) hg5.size _ _ M3.out),by simp only [List.length_append,List.length_cons,List.length_nil]; omega⟩⟩
       ·refine ⟨hg5.os.trans (HB3.out.os.trans K2.out.os),hg5.tape.trans (HB3.out.tape.trans K2.out.tape),hg5.output.trans (HB3.out.output.trans K2.out.output),Nat.le_trans K2.out.size (Nat.le_trans hsz3 hg5.size),fun k hk hne => ?_⟩
        have hk2:=K2.out.size
        exact (hg5.block k (by omega) (fun e => by have:=(hb5 k e.symm).1; omega)).trans ((HB3.out.block k (by omega)).trans (K2.out.block k hk hne))
       ·rcases hat5 with q | q
        ·exact hk.2 (q.symm.trans e)
        ·rw [q] at e; injection e with e; omega
       ·rcases hat5 with q | q
        ·exact hk.2 (q.symm.trans e)
        ·rw [q] at e; injection e with e; omega
end Go.Proofs.YtdlgnhefpoalnaaGreatDoor
