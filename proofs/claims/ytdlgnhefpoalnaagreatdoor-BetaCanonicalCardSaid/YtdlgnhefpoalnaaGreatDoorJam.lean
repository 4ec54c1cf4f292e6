/- The walks of beta's forms that turn the router: the reader's methods, the closures over one pointer. Conditions: no word is longer than 10^9 bytes; Go's own tables lie below (EnvA); the router is within bounds (RtI). -/
import Derived.Test.YtdlgnhefpoalnaaGreatDoorJae
import Derived.Deep.DeepCutAuto
set_option maxRecDepth 8000
set_option maxHeartbeats 8000000
namespace Go.Proofs.YtdlgnhefpoalnaaGreatDoor
open Lib (hid)
open Go.RowKit
def NewP (F:Nat) (U:TypeId) (x:Addr) (w:World) (e:Ending) (w' : World):Prop :=
 e = .returned (.func (.func F) #[] #[.pointer (some ⟨w.heap.size,0,none⟩)])∧w' = w.alloc (.cells #[.pointer (some x)] U)
theorem new_prefixRules (x:Addr) (w:World):Calls Tryz.prog 141 #[.pointer (some x)] w (NewP 202 189 x w):=by
 have hmf:∀ (fn:Fn) (first cap:Array Value) (w:World),(Instr.makeFunc fn first cap).run Tryz.prog w = .ok (.func fn first cap) w:=fun _ _ _ _ => rfl
 go_enter Tryz.func141,Tryz.ntmps141
 go_wp2_with fail
 go_ret
 exact ⟨rfl,rfl⟩
theorem new_clauses (x:Addr) (w:World):Calls Tryz.prog 143 #[.pointer (some x)] w (NewP 206 193 x w):=by
 have hmf:∀ (fn:Fn) (first cap:Array Value) (w:World),(Instr.makeFunc fn first cap).run Tryz.prog w = .ok (.func fn first cap) w:=fun _ _ _ _ => rfl
 go_enter Tryz.func143,Tryz.ntmps143
 go_wp2_with fail
 go_ret
 exact ⟨rfl,rfl⟩
theorem new_clause (x:Addr) (w:World):Calls Tryz.prog 207 #[.pointer (some x)] w (NewP 249 216 x w):=by
 have hmf:∀ (fn:Fn) (first cap:Array Value) (w:World),(Instr.makeFunc fn first cap).run Tryz.prog w = .ok (.func fn first cap) w:=fun _ _ _ _ => rfl
 go_enter Tryz.func207,Tryz.ntmps207
 go_wp2_with fail
 go_ret
 exact ⟨rfl,rfl⟩
theorem new_rules (x:Addr) (w:World):Calls Tryz.prog 145 #[.pointer (some x)] w (NewP 209 197 x w):=by
 have hmf:∀ (fn:Fn) (first cap:Array Value) (w:World),(Instr.makeFunc fn first cap).run Tryz.prog w = .ok (.func fn first cap) w:=fun _ _ _ _ => rfl
 go_enter Tryz.func145,Tryz.ntmps145
 go_wp2_with fail
 go_ret
 exact ⟨rfl,rfl⟩
theorem new_rule (x:Addr) (w:World):Calls Tryz.prog 210 #[.pointer (some x)] w (NewP 250 218 x w):=by
 have hmf:∀ (fn:Fn) (first cap:Array Value) (w:World),(Instr.makeFunc fn first cap).run Tryz.prog w = .ok (.func fn first cap) w:=fun _ _ _ _ => rfl
 go_enter Tryz.func210,Tryz.ntmps210
 go_wp2_with fail
 go_ret
 exact ⟨rfl,rfl⟩
theorem new_iface (x:Addr) (w:World):Calls Tryz.prog 200 #[.pointer (some x)] w (NewP 246 211 x w):=by
 have hmf:∀ (fn:Fn) (first cap:Array Value) (w:World),(Instr.makeFunc fn first cap).run Tryz.prog w = .ok (.func fn first cap) w:=fun _ _ _ _ => rfl
 go_enter Tryz.func200,Tryz.ntmps200
 go_wp2_with fail
 go_ret
 exact ⟨rfl,rfl⟩
theorem new_static (x:Addr) (w:World):Calls Tryz.prog 213 #[.pointer (some x)] w (NewP 255 227 x w):=by
 have hmf:∀ (fn:Fn) (first cap:Array Value) (w:World),(Instr.makeFunc fn first cap).run Tryz.prog w = .ok (.func fn first cap) w:=fun _ _ _ _ => rfl
 go_enter Tryz.func213,Tryz.ntmps213
 go_wp2_with fail
 go_ret
 exact ⟨rfl,rfl⟩
theorem new_linkState (x:Addr) (w:World):Calls Tryz.prog 148 #[.pointer (some x)] w (NewP 215 202 x w):=by
 have hmf:∀ (fn:Fn) (first cap:Array Value) (w:World),(Instr.makeFunc fn first cap).run Tryz.prog w = .ok (.func fn first cap) w:=fun _ _ _ _ => rfl
 go_enter Tryz.func148,Tryz.ntmps148
 go_wp2_with fail
 go_ret
 exact ⟨rfl,rfl⟩
theorem zKm (x:Addr) (w:World):Calls Tryz.prog 149 #[.pointer (some x)] w (NewP 217 204 x w):=by
 have hmf:∀ (fn:Fn) (first cap:Array Value) (w:World),(Instr.makeFunc fn first cap).run Tryz.prog w = .ok (.func fn first cap) w:=fun _ _ _ _ => rfl
 go_enter Tryz.func149,Tryz.ntmps149
 go_wp2_with fail
 go_ret
 exact ⟨rfl,rfl⟩
theorem new_pathVector (x:Addr) (w:World):Calls Tryz.prog 150 #[.pointer (some x)] w (NewP 218 206 x w):=by
 have hmf:∀ (fn:Fn) (first cap:Array Value) (w:World),(Instr.makeFunc fn first cap).run Tryz.prog w = .ok (.func fn first cap) w:=fun _ _ _ _ => rfl
 go_enter Tryz.func150,Tryz.ntmps150
 go_wp2_with fail
 go_ret
 exact ⟨rfl,rfl⟩
theorem new_neighbor (x:Addr) (w:World):Calls Tryz.prog 220 #[.pointer (some x)] w (NewP 259 272 x w):=by
 have hmf:∀ (fn:Fn) (first cap:Array Value) (w:World),(Instr.makeFunc fn first cap).run Tryz.prog w = .ok (.func fn first cap) w:=fun _ _ _ _ => rfl
 go_enter Tryz.func220,Tryz.ntmps220
 go_wp2_with fail
 go_ret
 exact ⟨rfl,rfl⟩
theorem zFl (x:Addr) (typed:Bool) (w:World):Calls Tryz.prog 258 #[.pointer (some x),.bool typed] w fun e w' =>
  e = .returned (.func (.func 273) #[] #[.pointer (some ⟨w.heap.size,0,none⟩),.pointer (some ⟨w.heap.size + 1,0,none⟩)])∧w' = (w.alloc (.cells #[.pointer (some x)] 301)).alloc (.cells #[.bool typed] 4):=by
 have hmf:∀ (fn:Fn) (first cap:Array Value) (w:World),(Instr.makeFunc fn first cap).run Tryz.prog w = .ok (.func fn first cap) w:=fun _ _ _ _ => rfl
 go_enter Tryz.func258,Tryz.ntmps258
 go_wp2_with fail
 go_ret
 exact ⟨by simp,rfl⟩
section
variable {α β : Type} {E E' : TypeId} {n g B b j gg cap : Nat} {C : α → Array Value} {D : β → Array Value} {v V pv : Value} {l : List α} {l0 : List β} {m : β} {x : α} {K : Kept} {w0 w w' : World} {r : Rt} {R : Value → Rt} {T : TypeId × Bool} {p : Ps} {post ex : List Orow} {e : Ending}
theorem BW.added (h:BW g B w0 r K T b p w) (hp:(btR r).Perm (rowE E n C v l :: post)) (ha:AddP E n C g j B v l x w e w') (hp' : ∀ v', (btR (R v')).Perm (rowE E n C v' (l ++ [x]) :: (ex ++ post))) (hx:∀ o ∈ ex,o.v.ownBlock = none∧∀ w,o.own w B)
  (hn:0 < n) (hC:∀ x,(C x).toList.length = n) (ec:∀ v', r.C.setIfInBounds j v' = (R v').C) :
  ∃ gg cap cur,e = .returned (.pointer (some ⟨gg,l.length * n,none⟩))∧BW g B w0 (R (.slice (some ⟨gg,0,none⟩) (l.length + 1) cap)) K T b p w' ∧ Part E gg (l.length * n) cur (C x) w' := by
 obtain ⟨w1,gg,cap,rfl,ho,hg,hb,rfl⟩:=ha
 have h' := h.grow (r' := R (.slice (some ⟨gg,0,none⟩) (l.length + 1) cap)) (ex:=ex) hp (hp' _) hx ho hg (by
  rcases hb with hb | hb
  ·exact .inl hb.symm
  ·exact .inr (.inr ⟨gg,rfl,hb⟩)) (ec _)
 have hall:=h'.own.perm (hp' (.slice (some ⟨gg,0,none⟩) (l.length + 1) cap)).symm
 have ho' : OwnE _ B E n C (.slice (some ⟨gg,0,none⟩) (l.length + 1) cap) (l ++ [x]):=hall.1 (rowE E n C _ (l ++ [x])) (by simp)
 obtain ⟨g', cap', cur,e1, -,hpa, -⟩:=ho'.part hn hC (k:=l.length) (by simp)
 injection e1 with e1 _ e3
 injection e1 with e1
 injection e1 with e1 _ _
 subst e1
 rw [show (l ++ [x])[l.length]'(by simp) = x from by simp] at hpa
 exact ⟨gg,cap,cur,rfl,h', hpa⟩
theorem BW.addedI {M:Value→β} (h:BW g B w0 r K T b p w) (hp:(btR r).Perm (rowE E' 2 D V (l0 ++ [m]) :: rowE E n C v l :: post)) (ha:AddP E n C gg (l0.length * 2 + 1) B v l x w e w')
  (hp' : ∀ v', (btR (R v')).Perm (rowE E' 2 D V (l0 ++ [M v']) :: rowE E n C v' (l ++ [x]) :: post)) (hV:V = .slice (some ⟨gg,0,none⟩) (l0.length + 1) cap) (hD:∀ x,(D x).toList.length = 2) (hm:∀ v', (D m).setIfInBounds 1 v' = D (M v')) (ec:∀ v', (R v').C = r.C) :
  ∃ g2 cap2,e = .returned (.pointer (some ⟨g2,l.length * n,none⟩))∧BW g B w0 (R (.slice (some ⟨g2,0,none⟩) (l.length + 1) cap2)) K T b p w' := by
 obtain ⟨w1,g2,cap2,rfl,ho,hg,hb,rfl⟩:=ha
 exact ⟨g2,cap2,rfl,h.inner (r' := R (.slice (some ⟨g2,0,none⟩) (l.length + 1) cap2)) hp (hp' _) hV hD (hm _) (ec _) ho hg (by
  rcases hb with hb | hb
  ·exact .inl hb.symm
  ·exact .inr (.inr ⟨g2,rfl,hb⟩))⟩
end
theorem BR.cellx {g B:Nat} {w0 w:World} {r:Rt} {K:Kept} (h:BR g B w0 r K w) (j:Nat) (hj:j < 25):∃ y,w.cell? ⟨g,j,none⟩ = some y:=by
 have hs:r.C.size = 25:=rfl
 exact ⟨r.C[j]'(by omega),by rw [h.cell,Array.getElem?_eq_getElem]⟩
theorem BW.drew {g B b:Nat} {w0 w:World} {r:Rt} {K:Kept} {T:TypeId × Bool} {p:Ps} (h:BW g B w0 r K T b p w):BW g B w0 r K T b p w.drew:=h.on ⟨rfl,rfl,rfl,Nat.le_refl _,fun _ _ => rfl⟩
theorem BW.kc {g B b k:Nat} {w0 w:World} {r:Rt} {K:Kept} {T:TypeId × Bool} {p:Ps} {v:Value} {U:TypeId} (h:BW g B w0 r K T b p w) (hk:(k,.cells #[v] U (0,0)) ∈ K):w.cell? ⟨k,0,none⟩ = some v:=by
 rw [Lib.cell_of_heap (h.keep _ hk).1]; rfl
structure BX (g B:Nat) (w0:World) (r:Rt) (K:Kept) (T:TypeId × Bool) (b:Nat) (p:Ps) (q:Nat) (E:TypeId) (cs:Array Value) (w:World):Prop where
 bw:BW g B w0 r ((q,.cells cs E (0,0)) :: K) T b p w
 ne:∀ k ∈ K,k.1≠q
 qB:B≤q
section
variable {g B b q : Nat} {w0 w w' : World} {r : Rt} {K : Kept} {T : TypeId × Bool} {p p' : Ps} {E : TypeId} {cs cs' : Array Value}
theorem BX.new (h:BW g B w0 r K T b p w) (E:TypeId) (cs:Array Value):BX g B w0 r K T b p w.heap.size E cs (w.alloc (.cells cs E)) :=
 ⟨h.box _,fun k hk => Nat.ne_of_lt (zAw (h.keep k hk).1),Nat.le_trans h.bB h.size⟩
theorem BX.newc (h:BW g B w0 r K T b p w) (hz:HasC E w.heap.size cs w') (hb:Below w.heap.size w w'):BX g B w0 r K T b p w.heap.size E cs w' := by
 have h1:=h.on hb
 refine ⟨⟨⟨h1.has,h1.own,h1.bel,h1.bB,h1.gB,h1.gr,fun k hk => ?_⟩,h1.st,h1.gb,h1.br,fun k hk => ?_⟩,fun k hk => Nat.ne_of_lt (zAw (h.keep k hk).1),Nat.le_trans h.bB h.size⟩
 ·rcases List.mem_cons.1 hk with rfl | hk
  ·exact ⟨hz,Nat.ne_of_gt h.lt,fun hm => Nat.lt_irrefl _ (h.blt hm).1⟩
  ·exact h1.keep k hk
 ·rcases List.mem_cons.1 hk with rfl | hk
  ·exact Nat.ne_of_gt h.st.lt
  ·exact h1.kb k hk
theorem BX.has (h:BX g B w0 r K T b p q E cs w):HasC E q cs w:=(h.bw.keep _ List.mem_cons_self).1
theorem BX.st (h:BX g B w0 r K T b p q E cs w):WSt T b B p w:=h.bw.st
theorem BX.drew (h:BX g B w0 r K T b p q E cs w):BX g B w0 r K T b p q E cs w.drew:=⟨h.bw.drew,h.ne,h.qB⟩
theorem BX.word (h:BX g B w0 r K T b p q E cs w) (hs:WSt T b B p' w') (hg:w.grownBy w' (some b)):BX g B w0 r K T b p' q E cs w' := ⟨h.bw.word hs hg,h.ne,h.qB⟩
theorem BX.bad (h:BX g B w0 r K T b p q E cs w):BX g B w0 r K T b p.fail q E cs (w.setCell ⟨b,2,none⟩ (.bool true)):=⟨h.bw.bad,h.ne,h.qB⟩
theorem BX.cell (h:BX g B w0 r K T b p q E cs w) (j:Nat):w.cell? ⟨q,j,none⟩ = cs[j]?:=h.has.cell j
theorem BX.cellx (h:BX g B w0 r K T b p q E cs w) {j:Nat} (hj:j < cs.size):∃ y,w.cell? ⟨q,j,none⟩ = some y:=⟨cs[j],by rw [h.cell,Array.getElem?_eq_getElem hj]⟩
theorem BX.frz (h:BX g B w0 r K T b p q E cs w) (j:Nat):w.frozen? ⟨q,j,none⟩ = false:=h.has.frz j
theorem BX.env (h:BX g B w0 r K T b p q E cs w) (he:EnvA B w0):EnvA B w:=h.bw.toBR.env he
theorem BX.put (h:BX g B w0 r K T b p q E cs w) (j:Nat) (v:Value) (e:cs.setIfInBounds j v = cs'):BX g B w0 r K T b p q E cs' (w.setCell ⟨q,j,none⟩ v):=by
 obtain ⟨h,hne,hq⟩:=h
 obtain ⟨k1,k2,k3⟩:=h.keep _ List.mem_cons_self
 have hqb:=h.kb _ List.mem_cons_self
 dsimp only at k1 k2 k3 hqb
 have hg:=zAy w q j v
 refine ⟨⟨⟨h.has.grown hg (fun e => k2 (by injection e with e; exact e.symm)),h.own.frame hg (fun g e => by injection e with e; subst e; exact k3),h.bel.trans (zBo hg hq (Nat.le_trans h.bB h.size)),h.bB,h.gB,h.gr,fun k hk => ?_⟩,h.st.other hg (fun k hk => by cases hk; exact ⟨hq,hqb⟩),h.gb,h.br,fun k hk => ?_⟩,hne,hq⟩
 ·rcases List.mem_cons.1 hk with rfl | hk
  ·exact ⟨by rw [← e]; exact Lib.heap_setCell_same (i:=j) k1 v,k2,k3⟩
  ·obtain ⟨h1,h2,h3⟩:=h.keep k (List.mem_cons_of_mem _ hk)
   exact ⟨(hg.block k.1 (zAw h1) (fun e => hne k hk (by injection e))).trans h1,h2,h3⟩
 ·rcases List.mem_cons.1 hk with rfl | hk
  ·exact hqb
  ·exact h.kb k (List.mem_cons_of_mem _ hk)
end
theorem zEd {rs t z:List Orow} {o:Orow} (h:rs = t ++ o :: z):rs.Perm (o :: (t ++ z)):=(List.Perm.of_eq h).trans List.perm_middle
theorem zIh {rs t u z:List Orow} {o y:Orow} (h:rs = t ++ o :: (u ++ y :: z)):rs.Perm (o :: y :: (t ++ (u ++ z))):=by
 refine (List.Perm.of_eq h).trans (List.perm_middle.trans (List.Perm.cons _ ?_))
 rw [← List.append_assoc t u (y :: z),← List.append_assoc t u z]
 exact List.perm_middle
section
variable {r : Rt}
theorem btR_l {m0:List PList} {m:PList} (e:r.lists = m0 ++ [m]):btR r = (btR r).take 11 ++ rowE 81 2 PList.C r.listsV (m0 ++ [m]) :: ((rowE 84 2 RMap.C r.mapsV r.maps :: rowE 87 2 AList.C r.aclsV r.acls :: m0.map rP) ++ rP m :: (r.maps.map rM ++ r.acls.map rA)):=by
 show (btR r).take 11 ++ rowE 81 2 PList.C r.listsV r.lists :: rowE 84 2 RMap.C r.mapsV r.maps :: rowE 87 2 AList.C r.aclsV r.acls :: (r.lists.map rP ++ (r.maps.map rM ++ r.acls.map rA)) = _
 rw [e]
 simp only [List.map_append,List.map_cons,List.map_nil,List.append_assoc,List.cons_append,List.nil_append]
theorem btR_m {m0:List RMap} {m:RMap} (e:r.maps = m0 ++ [m]):btR r = (btR r).take 12 ++ rowE 84 2 RMap.C r.mapsV (m0 ++ [m]) :: ((rowE 87 2 AList.C r.aclsV r.acls :: (r.lists.map rP ++ m0.map rM)) ++ rM m :: r.acls.map rA):=by
 show (btR r).take 12 ++ rowE 84 2 RMap.C r.mapsV r.maps :: rowE 87 2 AList.C r.aclsV r.acls :: (r.lists.map rP ++ (r.maps.map rM ++ r.acls.map rA)) = _
 rw [e]
 simp only [List.map_append,List.map_cons,List.map_nil,List.append_assoc,List.cons_append,List.nil_append]
theorem btR_a {m0:List AList} {m:AList} (e:r.acls = m0 ++ [m]):btR r = (btR r).take 13 ++ rowE 87 2 AList.C r.aclsV (m0 ++ [m]) :: ((r.lists.map rP ++ (r.maps.map rM ++ m0.map rA)) ++ rA m :: []):=by
 show (btR r).take 13 ++ rowE 87 2 AList.C r.aclsV r.acls :: (r.lists.map rP ++ (r.maps.map rM ++ r.acls.map rA)) = _
 rw [e]
 simp only [List.map_append,List.map_cons,List.map_nil,List.append_assoc]
end
section
variable {α β : Type} {E E' : TypeId} {n g B b gg cap : Nat} {C : α → Array Value} {D : β → Array Value} {v V : Value} {l : List α} {l0 : List β} {m : β} {K : Kept} {w0 w : World} {r : Rt} {T : TypeId × Bool} {p : Ps} {post : List Orow}
theorem BW.two (h:BW g B w0 r K T b p w) (e:(btR r).Perm (rowE E' 2 D V (l0 ++ [m]) :: rowE E n C v l :: post)) (hV:V = .slice (some ⟨gg,0,none⟩) (l0.length + 1) cap) (hD:∀ x,(D x).toList.length = 2) :
  OwnE w B E n C v l∧v.ownBlock≠some gg∧B≤gg∧∃ cur,Part E' gg (l0.length * 2) cur (D m) w:=by
 have hall:=h.own.perm e.symm
 have ho0:OwnE w B E' 2 D V (l0 ++ [m]):=hall.1 (rowE E' 2 D V (l0 ++ [m])) (by simp)
 obtain ⟨g', cap', cur,e1,hgB,hp, -⟩:=ho0.part (by decide) hD (k:=l0.length) (by simp)
 have hVb:V.ownBlock = some gg:=by rw [hV]; rfl
 rw [hV] at e1
 injection e1 with e1 _ e3
 injection e1 with e1
 injection e1 with e1 _ _
 subst e1
 rw [show (l0 ++ [m])[l0.length]'(by simp) = m from by simp] at hp
 have hd:=hall.2
 rw [List.filterMap_cons_some (f:=fun x:Orow => x.v.ownBlock) (b:=gg) (show (rowE E' 2 D V (l0 ++ [m])).v.ownBlock = some gg from hVb)] at hd
 refine ⟨hall.1 (rowE E n C v l) (by simp),fun ev => ?_,hgB,cur,hp⟩
 rw [List.filterMap_cons_some (f:=fun x:Orow => x.v.ownBlock) (b:=gg) (show (rowE E n C v l).v.ownBlock = some gg from ev)] at hd
 simp at hd
end
section
variable {g B b gg cap : Nat} {K : Kept} {w0 w : World} {r : Rt} {T : TypeId × Bool} {p : Ps}
theorem add_ifs (h:BW g B w0 r K T b p w) (x:If) (h1:(If.C x).all (·.oneCell') = true) (hl:r.ifs.length≤1000000000) :
  Calls Tryz.prog 199 #[.pointer (some ⟨g,2,none⟩),.agg (If.C x)] w fun e w' => ∃ gg cap cur,e = .returned (.pointer (some ⟨gg,r.ifs.length * 12,none⟩))∧BW g B w0 { r with ifsV:=.slice (some ⟨gg,0,none⟩) (r.ifs.length + 1) cap,ifs:=r.ifs ++ [x] } K T b p w' ∧ Part 72 gg (r.ifs.length * 12) cur (If.C x) w' := by
 have hm:rowE 72 12 If.C r.ifsV r.ifs ∈ btR r:=List.mem_of_getElem? (i:=0) rfl
 refine (addIf B g 2 r.ifsV r.ifs x w (rowE_own.1 (h.own.1 _ hm)) (h.toBR.cell 2) (h.toBR.frz 2) (fun e => h.gr (List.mem_filterMap.2 ⟨_,hm,e⟩)) (Nat.le_trans h.bB h.size) hl h1).mono ?_
 intro e w' ha
 exact h.added (j:=2) (R:=fun v' => { r with ifsV:=v', ifs:=r.ifs ++ [x] }) (ex:=[]) (zEd (t:=(btR r).take 0) (z:=(btR r).drop 1) rfl) ha (fun v' => zEd (t:=(btR r).take 0) (z:=(btR r).drop 1) rfl) (fun o ho => by cases ho) (by decide) (fun _ => rfl) (fun _ => rfl)
theorem add_stat (h:BW g B w0 r K T b p w) (x:Sr) (h1:(Sr.C x).all (·.oneCell') = true) (hl:r.stat.length≤1000000000) :
  Calls Tryz.prog 214 #[.pointer (some ⟨g,7,none⟩),.agg (Sr.C x)] w fun e w' => ∃ gg cap cur,e = .returned (.pointer (some ⟨gg,r.stat.length * 7,none⟩))∧BW g B w0 { r with statV:=.slice (some ⟨gg,0,none⟩) (r.stat.length + 1) cap,stat:=r.stat ++ [x] } K T b p w' ∧ Part 78 gg (r.stat.length * 7) cur (Sr.C x) w' := by
 have hm:rowE 78 7 Sr.C r.statV r.stat ∈ btR r:=List.mem_of_getElem? (i:=2) rfl
 refine (addSr B g 7 r.statV r.stat x w (rowE_own.1 (h.own.1 _ hm)) (h.toBR.cell 7) (h.toBR.frz 7) (fun e => h.gr (List.mem_filterMap.2 ⟨_,hm,e⟩)) (Nat.le_trans h.bB h.size) hl h1).mono ?_
 intro e w' ha
 exact h.added (j:=7) (R:=fun v' => { r with statV:=v', stat:=r.stat ++ [x] }) (ex:=[]) (zEd (t:=(btR r).take 2) (z:=(btR r).drop 3) rfl) ha (fun v' => zEd (t:=(btR r).take 2) (z:=(btR r).drop 3) rfl) (fun o ho => by cases ho) (by decide) (fun _ => rfl) (fun _ => rfl)
theorem add_lsRed (h:BW g B w0 r K T b p w) (x:Rd) (h1:(Rd.C x).all (·.oneCell') = true) (hl:r.lsRed.length≤1000000000) :
  Calls Tryz.prog 257 #[.pointer (some ⟨g,11,none⟩),.agg (Rd.C x)] w fun e w' => ∃ gg cap cur,e = .returned (.pointer (some ⟨gg,r.lsRed.length * 5,none⟩))∧BW g B w0 { r with lsRedV:=.slice (some ⟨gg,0,none⟩) (r.lsRed.length + 1) cap,lsRed:=r.lsRed ++ [x] } K T b p w' ∧ Part 230 gg (r.lsRed.length * 5) cur (Rd.C x) w' := by
 have hm:rowE 230 5 Rd.C r.lsRedV r.lsRed ∈ btR r:=List.mem_of_getElem? (i:=4) rfl
 refine (addRd B g 11 r.lsRedV r.lsRed x w (rowE_own.1 (h.own.1 _ hm)) (h.toBR.cell 11) (h.toBR.frz 11) (fun e => h.gr (List.mem_filterMap.2 ⟨_,hm,e⟩)) (Nat.le_trans h.bB h.size) hl h1).mono ?_
 intro e w' ha
 exact h.added (j:=11) (R:=fun v' => { r with lsRedV:=v', lsRed:=r.lsRed ++ [x] }) (ex:=[]) (zEd (t:=(btR r).take 4) (z:=(btR r).drop 5) rfl) ha (fun v' => zEd (t:=(btR r).take 4) (z:=(btR r).drop 5) rfl) (fun o ho => by cases ho) (by decide) (fun _ => rfl) (fun _ => rfl)
theorem add_dvRed (h:BW g B w0 r K T b p w) (x:Rd) (h1:(Rd.C x).all (·.oneCell') = true) (hl:r.dvRed.length≤1000000000) :
  Calls Tryz.prog 257 #[.pointer (some ⟨g,16,none⟩),.agg (Rd.C x)] w fun e w' => ∃ gg cap cur,e = .returned (.pointer (some ⟨gg,r.dvRed.length * 5,none⟩))∧BW g B w0 { r with dvRedV:=.slice (some ⟨gg,0,none⟩) (r.dvRed.length + 1) cap,dvRed:=r.dvRed ++ [x] } K T b p w' ∧ Part 230 gg (r.dvRed.length * 5) cur (Rd.C x) w' := by
 have hm:rowE 230 5 Rd.C r.dvRedV r.dvRed ∈ btR r:=List.mem_of_getElem? (i:=5) rfl
 refine (addRd B g 16 r.dvRedV r.dvRed x w (rowE_own.1 (h.own.1 _ hm)) (h.toBR.cell 16) (h.toBR.frz 16) (fun e => h.gr (List.mem_filterMap.2 ⟨_,hm,e⟩)) (Nat.le_trans h.bB h.size) hl h1).mono ?_
 intro e w' ha
 exact h.added (j:=16) (R:=fun v' => { r with dvRedV:=v', dvRed:=r.dvRed ++ [x] }) (ex:=[]) (zEd (t:=(btR r).take 5) (z:=(btR r).drop 6) rfl) ha (fun v' => zEd (t:=(btR r).take 5) (z:=(btR r).drop 6) rfl) (fun o ho => by cases ho) (by decide) (fun _ => rfl) (fun _ => rfl)
theorem add_nb (h:BW g B w0 r K T b p w) (x:Nb) (h1:(Nb.C x).all (·.oneCell') = true) (hl:r.nb.length≤1000000000) :
  Calls Tryz.prog 219 #[.pointer (some ⟨g,20,none⟩),.agg (Nb.C x)] w fun e w' => ∃ gg cap cur,e = .returned (.pointer (some ⟨gg,r.nb.length * 4,none⟩))∧BW g B w0 { r with nbV:=.slice (some ⟨gg,0,none⟩) (r.nb.length + 1) cap,nb:=r.nb ++ [x] } K T b p w' ∧ Part 149 gg (r.nb.length * 4) cur (Nb.C x) w' := by
 have hm:rowE 149 4 Nb.C r.nbV r.nb ∈ btR r:=List.mem_of_getElem? (i:=6) rfl
 refine (addNb B g 20 r.nbV r.nb x w (rowE_own.1 (h.own.1 _ hm)) (h.toBR.cell 20) (h.toBR.frz 20) (fun e => h.gr (List.mem_filterMap.2 ⟨_,hm,e⟩)) (Nat.le_trans h.bB h.size) hl h1).mono ?_
 intro e w' ha
 exact h.added (j:=20) (R:=fun v' => { r with nbV:=v', nb:=r.nb ++ [x] }) (ex:=[]) (zEd (t:=(btR r).take 6) (z:=(btR r).drop 7) rfl) ha (fun v' => zEd (t:=(btR r).take 6) (z:=(btR r).drop 7) rfl) (fun o ho => by cases ho) (by decide) (fun _ => rfl) (fun _ => rfl)
theorem add_pvRed (h:BW g B w0 r K T b p w) (x:Rd) (h1:(Rd.C x).all (·.oneCell') = true) (hl:r.pvRed.length≤1000000000) :
  Calls Tryz.prog 257 #[.pointer (some ⟨g,24,none⟩),.agg (Rd.C x)] w fun e w' => ∃ gg cap cur,e = .returned (.pointer (some ⟨gg,r.pvRed.length * 5,none⟩))∧BW g B w0 { r with pvRedV:=.slice (some ⟨gg,0,none⟩) (r.pvRed.length + 1) cap,pvRed:=r.pvRed ++ [x] } K T b p w' ∧ Part 230 gg (r.pvRed.length * 5) cur (Rd.C x) w' := by
 have hm:rowE 230 5 Rd.C r.pvRedV r.pvRed ∈ btR r:=List.mem_of_getElem? (i:=10) rfl
 refine (addRd B g 24 r.pvRedV r.pvRed x w (rowE_own.1 (h.own.1 _ hm)) (h.toBR.cell 24) (h.toBR.frz 24) (fun e => h.gr (List.mem_filterMap.2 ⟨_,hm,e⟩)) (Nat.le_trans h.bB h.size) hl h1).mono ?_
 intro e w' ha
 exact h.added (j:=24) (R:=fun v' => { r with pvRedV:=v', pvRed:=r.pvRed ++ [x] }) (ex:=[]) (zEd (t:=(btR r).take 10) (z:=(btR r).drop 11) rfl) ha (fun v' => zEd (t:=(btR r).take 10) (z:=(btR r).drop 11) rfl) (fun o ho => by cases ho) (by decide) (fun _ => rfl) (fun _ => rfl)
theorem add_lists (h:BW g B w0 r K T b p w) (nm:List UInt8) (hl:r.lists.length≤1000000000) :
  Calls Tryz.prog 139 #[.pointer (some ⟨g,3,none⟩),.agg #[strV nm,.slice none 0 0]] w fun e w' => ∃ gg cap cur,e = .returned (.pointer (some ⟨gg,r.lists.length * 2,none⟩))∧BW g B w0 { r with listsV:=.slice (some ⟨gg,0,none⟩) (r.lists.length + 1) cap,lists:=r.lists ++ [⟨nm,.slice none 0 0,[]⟩] } K T b p w' ∧ Part 81 gg (r.lists.length * 2) cur #[strV nm,.slice none 0 0] w' := by
 have hm:rowE 81 2 PList.C r.listsV r.lists ∈ btR r:=List.mem_of_getElem? (i:=11) rfl
 refine (addPList B g 3 r.listsV r.lists ⟨nm,.slice none 0 0,[]⟩ w (rowE_own.1 (h.own.1 _ hm)) (h.toBR.cell 3) (h.toBR.frz 3) (fun e => h.gr (List.mem_filterMap.2 ⟨_,hm,e⟩)) (Nat.le_trans h.bB h.size) hl (by simp [PList.C,strV,Value.oneCell'])).mono ?_
 intro e w' ha
 exact h.added (j:=3) (R:=fun v' => { r with listsV:=v', lists:=r.lists ++ [⟨nm,.slice none 0 0,[]⟩] }) (ex:=[rP ⟨nm,.slice none 0 0,[]⟩]) (zEd (t:=(btR r).take 11) (z:=(btR r).drop 12) rfl) ha (fun v' => by have q:=zIh (t:=(btR r).take 11) (btR_l (r:={ r with listsV:=v', lists:=r.lists ++ [⟨nm,.slice none 0 0,[]⟩] }) (m0:=r.lists) (m:=⟨nm,.slice none 0 0,[]⟩) rfl); exact q) (fun o ho => by obtain rfl:=List.mem_singleton.1 ho; exact ⟨rfl,fun _ => OwnE.nil (cells:=PRule.C)⟩) (by decide) (fun _ => rfl) (fun _ => rfl)
theorem add_maps (h:BW g B w0 r K T b p w) (nm:List UInt8) (hl:r.maps.length≤1000000000) :
  Calls Tryz.prog 142 #[.pointer (some ⟨g,4,none⟩),.agg #[strV nm,.slice none 0 0]] w fun e w' => ∃ gg cap cur,e = .returned (.pointer (some ⟨gg,r.maps.length * 2,none⟩))∧BW g B w0 { r with mapsV:=.slice (some ⟨gg,0,none⟩) (r.maps.length + 1) cap,maps:=r.maps ++ [⟨nm,.slice none 0 0,[]⟩] } K T b p w' ∧ Part 84 gg (r.maps.length * 2) cur #[strV nm,.slice none 0 0] w' := by
 have hm:rowE 84 2 RMap.C r.mapsV r.maps ∈ btR r:=List.mem_of_getElem? (i:=12) rfl
 refine (addRMap B g 4 r.mapsV r.maps ⟨nm,.slice none 0 0,[]⟩ w (rowE_own.1 (h.own.1 _ hm)) (h.toBR.cell 4) (h.toBR.frz 4) (fun e => h.gr (List.mem_filterMap.2 ⟨_,hm,e⟩)) (Nat.le_trans h.bB h.size) hl (by simp [RMap.C,strV,Value.oneCell'])).mono ?_
 intro e w' ha
 exact h.added (j:=4) (R:=fun v' => { r with mapsV:=v', maps:=r.maps ++ [⟨nm,.slice none 0 0,[]⟩] }) (ex:=[rM ⟨nm,.slice none 0 0,[]⟩]) (zEd (t:=(btR r).take 12) (z:=(btR r).drop 13) rfl) ha (fun v' => by have q:=zIh (t:=(btR r).take 12) (btR_m (r:={ r with mapsV:=v', maps:=r.maps ++ [⟨nm,.slice none 0 0,[]⟩] }) (m0:=r.maps) (m:=⟨nm,.slice none 0 0,[]⟩) rfl); rw [List.cons_append,List.append_assoc (r.lists.map rP)] at q; exact q) (fun o ho => by obtain rfl:=List.mem_singleton.1 ho; exact ⟨rfl,fun _ => OwnE.nil (cells:=Cl.C)⟩) (by decide) (fun _ => rfl) (fun _ => rfl)
theorem add_acls (h:BW g B w0 r K T b p w) (nm:List UInt8) (hl:r.acls.length≤1000000000) :
  Calls Tryz.prog 144 #[.pointer (some ⟨g,5,none⟩),.agg #[strV nm,.slice none 0 0]] w fun e w' => ∃ gg cap cur,e = .returned (.pointer (some ⟨gg,r.acls.length * 2,none⟩))∧BW g B w0 { r with aclsV:=.slice (some ⟨gg,0,none⟩) (r.acls.length + 1) cap,acls:=r.acls ++ [⟨nm,.slice none 0 0,[]⟩] } K T b p w' ∧ Part 87 gg (r.acls.length * 2) cur #[strV nm,.slice none 0 0] w' := by
 have hm:rowE 87 2 AList.C r.aclsV r.acls ∈ btR r:=List.mem_of_getElem? (i:=13) rfl
 refine (addAList B g 5 r.aclsV r.acls ⟨nm,.slice none 0 0,[]⟩ w (rowE_own.1 (h.own.1 _ hm)) (h.toBR.cell 5) (h.toBR.frz 5) (fun e => h.gr (List.mem_filterMap.2 ⟨_,hm,e⟩)) (Nat.le_trans h.bB h.size) hl (by simp [AList.C,strV,Value.oneCell'])).mono ?_
 intro e w' ha
 exact h.added (j:=5) (R:=fun v' => { r with aclsV:=v', acls:=r.acls ++ [⟨nm,.slice none 0 0,[]⟩] }) (ex:=[rA ⟨nm,.slice none 0 0,[]⟩]) (zEd (t:=(btR r).take 13) (z:=(btR r).drop 14) rfl) ha (fun v' => by have q:=zIh (t:=(btR r).take 13) (btR_a (r:={ r with aclsV:=v', acls:=r.acls ++ [⟨nm,.slice none 0 0,[]⟩] }) (m0:=r.acls) (m:=⟨nm,.slice none 0 0,[]⟩) rfl); rw [List.append_nil] at q; exact q) (fun o ho => by obtain rfl:=List.mem_singleton.1 ho; exact ⟨rfl,fun _ => OwnE.nil (cells:=Ru.C)⟩) (by decide) (fun _ => rfl) (fun _ => rfl)
theorem add_clauses {m0:List RMap} {m:RMap} (h:BW g B w0 r K T b p w) (em:r.maps = m0 ++ [m]) (hV:r.mapsV = .slice (some ⟨gg,0,none⟩) (m0.length + 1) cap) (x:Cl) (h1:(Cl.C x).all (·.oneCell') = true) (hl:m.clauses.length≤1000000000) :
  Calls Tryz.prog 208 #[.pointer (some ⟨gg,m0.length * 2 + 1,none⟩),.agg (Cl.C x)] w fun e w' => ∃ g2 cap2,e = .returned (.pointer (some ⟨g2,m.clauses.length * 7,none⟩))∧BW g B w0 { r with maps:=m0 ++ [⟨m.name,.slice (some ⟨g2,0,none⟩) (m.clauses.length + 1) cap2,m.clauses ++ [x]⟩] } K T b p w' := by
 have hp:=zIh (btR_m em)
 obtain ⟨ho,hne,hgB,cur,hpa⟩:=h.two (E:=138) (n:=7) (C:=Cl.C) (v:=m.v) (l:=m.clauses) hp hV (fun _ => rfl)
 refine (addCl B gg (m0.length * 2 + 1) m.v m.clauses x w ho (hpa.cell (j:=1) (show 1 < 2 from by decide)) (hpa.frz _) hne (Nat.le_trans h.bB h.size) hl h1).mono ?_
 intro e w' ha
 exact h.addedI (M:=fun v' => ⟨m.name,v', m.clauses ++ [x]⟩) (R:=fun v' => { r with maps:=m0 ++ [⟨m.name,v', m.clauses ++ [x]⟩] }) hp ha (fun v' => zIh (t:=(btR r).take 12) (btR_m (r:={ r with maps:=m0 ++ [⟨m.name,v', m.clauses ++ [x]⟩] }) (m0:=m0) (m:=⟨m.name,v', m.clauses ++ [x]⟩) rfl)) hV (fun _ => rfl) (fun _ => rfl) (fun _ => rfl)
theorem add_rules {m0:List AList} {m:AList} (h:BW g B w0 r K T b p w) (em:r.acls = m0 ++ [m]) (hV:r.aclsV = .slice (some ⟨gg,0,none⟩) (m0.length + 1) cap) (x:Ru) (h1:(Ru.C x).all (·.oneCell') = true) (hl:m.rules.length≤1000000000) :
  Calls Tryz.prog 211 #[.pointer (some ⟨gg,m0.length * 2 + 1,none⟩),.agg (Ru.C x)] w fun e w' => ∃ g2 cap2,e = .returned (.pointer (some ⟨g2,m.rules.length * 10,none⟩))∧BW g B w0 { r with acls:=m0 ++ [⟨m.name,.slice (some ⟨g2,0,none⟩) (m.rules.length + 1) cap2,m.rules ++ [x]⟩] } K T b p w' := by
 have hp:=zIh (btR_a em)
 obtain ⟨ho,hne,hgB,cur,hpa⟩:=h.two (E:=144) (n:=10) (C:=Ru.C) (v:=m.v) (l:=m.rules) hp hV (fun _ => rfl)
 refine (addRu B gg (m0.length * 2 + 1) m.v m.rules x w ho (hpa.cell (j:=1) (show 1 < 2 from by decide)) (hpa.frz _) hne (Nat.le_trans h.bB h.size) hl h1).mono ?_
 intro e w' ha
 exact h.addedI (M:=fun v' => ⟨m.name,v', m.rules ++ [x]⟩) (R:=fun v' => { r with acls:=m0 ++ [⟨m.name,v', m.rules ++ [x]⟩] }) hp ha (fun v' => zIh (t:=(btR r).take 13) (btR_a (r:={ r with acls:=m0 ++ [⟨m.name,v', m.rules ++ [x]⟩] }) (m0:=m0) (m:=⟨m.name,v', m.rules ++ [x]⟩) rfl)) hV (fun _ => rfl) (fun _ => rfl) (fun _ => rfl)
end
theorem system_form:FormC .system:=by
 intro g B b k w0 w r K kb p fv h hf he hs hr hk
 obtain rfl:fv = .func (.func 137) #[.pointer (some ⟨g,0,none⟩)] #[]:=hf
 refine ⟨137,#[.pointer (some ⟨g,0,none⟩)],#[],rfl,enters_of Tryz.func137 (by kernel_rfl) rfl,?_⟩
 show Calls Tryz.prog 137 #[.pointer (some ⟨g,0,none⟩),.pointer (some ⟨b,0,none⟩)] w _
 have H:=hid h
 have HE:=hid he
 have HS:=hid hs
 have HR:=hid hr
 have HK:=hid hk
 clear h he hs hr hk
 have q0:((str (wV p)).toList == [104,111,115,116,45,110,97,109,101]) = (wV p == [104,111,115,116,45,110,97,109,101]):=by rw [zAb]
 have q1:((str (wV p)).toList == [97,117,116,111,110,111,109,111,117,115,45,115,121,115,116,101,109]) = (wV p == [97,117,116,111,110,111,109,111,117,115,45,115,121,115,116,101,109]):=by rw [zAb]
 go_enter Tryz.func137,Tryz.ntmps137
 go_wp2_with fail
 refine (zBl b B p _ H.out.st).mono ?_
 rintro e w1 ⟨rfl,h1,k1⟩
 have H1:=hid (H.out.word h1 k1)
 clear h1 k1
 unfold strV
 cases e0:(wV p == [104,111,115,116,45,110,97,109,101]) with
 | true =>
  rw [e0] at q0
  have E:Hid (zHp r.plain p = (wV p,none,({ r with name:=nmV (wS p) }).plain,nmS (wS p))):=hid (by unfold zHp; rw [e0]; rfl)
  go_wp2_with fail
  refine (zCu b B (wS p) _ H1.out.st).mono ?_
  rintro e w2 ⟨rfl,h2,k2⟩
  have H2:=hid (H1.out.word h2 k2)
  clear h2 k2
  unfold strV
  obtain ⟨y0,c0⟩:=H2.out.toBR.cellx 0 (by decide)
  have fz:=H2.out.toBR.frz
  go_wp2_with fail
  clear c0 fz
  go_ret2
  exact ⟨_,none,{ r with name:=nmV (wS p) },_,[],.nilFunc,E.out,rfl,(H2.out.put 0 _ rfl rfl),fun _ => ⟨rfl,rfl,rfl,rfl,rfl,rfl⟩,fun _ q => q,rfl,fun _ h => by cases h⟩
 | false =>
  rw [e0] at q0
  cases e1:(wV p == [97,117,116,111,110,111,109,111,117,115,45,115,121,115,116,101,109]) with
  | true =>
   rw [e1] at q1
   have E:Hid (zHp r.plain p = (wV p,none,({ r with asn:=noV 1 65535 (wS p) }).plain,noS 1 65535 (wS p))):=hid (by unfold zHp; rw [e0,e1]; rfl)
   go_wp2_with fail
   refine (zAn b B (wS p) 1 65535 _ H1.out.st).mono ?_
   rintro e w2 ⟨rfl,h2,k2⟩
   have H2:=hid (H1.out.word h2 k2)
   clear h2 k2
   obtain ⟨y1,c1⟩:=H2.out.toBR.cellx 1 (by decide)
   have fz:=H2.out.toBR.frz
   go_wp2_with fail
   clear c1 fz
   go_ret2
   exact ⟨_,none,{ r with asn:=noV 1 65535 (wS p) },_,[],.nilFunc,E.out,rfl,(H2.out.put 1 _ rfl rfl),fun _ => ⟨rfl,rfl,rfl,rfl,rfl,rfl⟩,fun _ q => q,rfl,fun _ h => by cases h⟩
  | false =>
   rw [e1] at q1
   have E:Hid (zHp r.plain p = (wV p,none,(r).plain,(wS p).fail)):=hid (by unfold zHp; rw [e0,e1]; rfl)
   have fb:=H1.out.st.frz 2
   have cb:=H1.out.st.bad1
   go_wp2_with fail
   clear fb cb
   go_ret2
   exact ⟨_,none,r,_,[],.nilFunc,E.out,rfl,H1.out.bad,fun _ => ⟨rfl,rfl,rfl,rfl,rfl,rfl⟩,fun _ q => q,rfl,fun _ h => by cases h⟩
theorem interfaces_form:FormC .interfaces:=by
 intro g B b k w0 w r K kb p fv h hf he hs hr hk
 obtain rfl:fv = .func (.func 138) #[.pointer (some ⟨g,0,none⟩)] #[]:=hf
 refine ⟨138,#[.pointer (some ⟨g,0,none⟩)],#[],rfl,enters_of Tryz.func138 (by kernel_rfl) rfl,?_⟩
 show Calls Tryz.prog 138 #[.pointer (some ⟨g,0,none⟩),.pointer (some ⟨b,0,none⟩)] w _
 have H:=hid h
 have HE:=hid he
 have HS:=hid hs
 have HR:=hid hr
 have HK:=hid hk
 clear h he hs hr hk
 have H0:=H
 go_enter Tryz.func138,Tryz.ntmps138
 have E:Hid (∀ v:Value,zGx r.plain p = (nmV p,some .iface,({ r with ifsV:=v,ifs:=r.ifs ++ [⟨nmV p,0,0,0,false,false,0,0,false,[],[],0⟩] }:Rt).plain,nmS p)):=hid (fun v => rfl)
 have hbd:r.ifs.length≤1000000000:=(by have h:=HR.out.ifs.1; replace h:r.ifs.length≤k:=h; have:=HK.out; omega)
 go_wp2_with fail
 have D0:=hid H0.out.drew
 go_region_held3 (fun _ => True) (trivial) (first | ((with_reducible refine (zCu b B p _ D0.out.st).mono ?_); rintro e w1 ⟨rfl,h1,k1⟩; have H1:=hid (D0.out.word h1 k1); clear h1 k1; unfold strV) | ((refine (add_ifs H1.out ⟨nmV p,0,0,0,false,false,0,0,false,[],[],0⟩ (by simp [If.C,strV,Value.oneCell']) hbd).mono ?_); rintro e w2 ⟨gg,cap,cur,rfl,h2,a2⟩; have H2:=hid h2; have A2:=hid a2; clear h2 a2))
 go_wp2_with fail
 have D2:=hid H2.out.drew
 have cn:w2.drew.cell? ⟨gg,r.ifs.length * 12,none⟩ = some (.string (str (nmV p))):=A2.out.cell (j:=0) (show 0 < 12 from by decide)
 have gl:gg < w2.heap.size:=A2.out.lt
 have cna:∀ o,((w2.alloc o).drew).cell? ⟨gg,r.ifs.length * 12,none⟩ = some (.string (str (nmV p))):=fun o => (World.cell?_alloc_lt w2 o ⟨gg,r.ifs.length * 12,none⟩ gl).trans cn
 go_region_held3 (fun w' => w'.cell? ⟨gg,r.ifs.length * 12,none⟩ = some (.string (str (nmV p)))) (first | assumption | with_reducible exact cna _) (((with_reducible refine (new_iface _ _).mono ?_); rintro e w3 ⟨rfl,rfl⟩; have H3:=hid (D2.out.box (.cells #[.pointer (some ⟨gg,r.ifs.length * 12,none⟩)] 211))))
 all_goals
  go_wp2_with fail
  go_ret2
  exact ⟨_,some .iface,_,_,[_],_,E.out _,rfl,H3.out,fun _ => ⟨rfl,rfl,rfl,rfl,rfl,rfl⟩,fun _ q => q,⟨by decide,rfl,gg,cap,r.ifs,_,_,rfl,rfl,rfl,List.mem_cons_self⟩,fun k hk => by obtain rfl:=List.mem_singleton.1 hk; exact ⟨_,_,rfl⟩⟩
theorem statics_form:FormC .statics:=by
 intro g B b k w0 w r K kb p fv h hf he hs hr hk
 obtain rfl:fv = .func (.func 147) #[.pointer (some ⟨g,0,none⟩)] #[]:=hf
 refine ⟨147,#[.pointer (some ⟨g,0,none⟩)],#[],rfl,enters_of Tryz.func147 (by kernel_rfl) rfl,?_⟩
 show Calls Tryz.prog 147 #[.pointer (some ⟨g,0,none⟩),.pointer (some ⟨b,0,none⟩)] w _
 have H:=hid h
 have HE:=hid he
 have HS:=hid hs
 have HR:=hid hr
 have HK:=hid hk
 clear h he hs hr hk
 have H0:=H
 go_enter Tryz.func147,Tryz.ntmps147
 have E:Hid (∀ v:Value,zLd r.plain p = ([],some .static,({ r with statV:=v,stat:=r.stat ++ [⟨(pxV (mustS (isW [114,111,117,116,101] p) (optS [114,111,117,116,101] p))).1,(pxV (mustS (isW [114,111,117,116,101] p) (optS [114,111,117,116,101] p))).2,0,[],false,5,0⟩] }:Rt).plain,pxS (mustS (isW [114,111,117,116,101] p) (optS [114,111,117,116,101] p)))):=hid (fun v => rfl)
 have hbd:r.stat.length≤1000000000:=(by have h:=HR.out.stat.1; replace h:r.stat.length≤k:=h; have:=HK.out; omega)
 have one:(Sr.C ⟨(pxV (mustS (isW [114,111,117,116,101] p) (optS [114,111,117,116,101] p))).1,(pxV (mustS (isW [114,111,117,116,101] p) (optS [114,111,117,116,101] p))).2,0,[],false,5,0⟩).all (·.oneCell') = true:=(by simp [Sr.C,strV,Value.oneCell']) 
 go_wp2_with fail
 refine (zBj b B p [114,111,117,116,101] _ H0.out.st).mono ?_
 rintro e w1 ⟨rfl,h1,k1⟩
 have H1:=hid (H0.out.word h1 k1)
 clear h1 k1
 go_wp2_with fail
 refine (zDs b B (optS [114,111,117,116,101] p) _ _ H1.out.st).mono ?_
 rintro e w2 ⟨rfl,h2,k2⟩
 have H2:=hid (H1.out.word h2 k2)
 clear h2 k2
 go_wp2_with fail
 refine (zEz b B (mustS (isW [114,111,117,116,101] p) (optS [114,111,117,116,101] p)) _ H2.out.st (H2.out.toBR.env HE.out) (zGu _ (short_opt _ HS.out))).mono ?_
 rintro e w3 ⟨rfl,h3,k3⟩
 have H3:=hid (H2.out.word h3 k3)
 clear h3 k3
 go_upto_region 3 with (first | (refine zAc rfl 78 _ _ rfl rfl (ds:=Sr.C ⟨(pxV (mustS (isW [114,111,117,116,101] p) (optS [114,111,117,116,101] p))).1,(pxV (mustS (isW [114,111,117,116,101] p) (optS [114,111,117,116,101] p))).2,0,[],false,5,0⟩) rfl (HasC.new _ _ _) rfl Tryz.sizeSr one ?_; intro w4 hz1 hz2))
 have X4:=hid (BX.newc H3.out hz1 (zAh hz2))
 clear hz1 hz2
 skip
 go_wp2_with fail
 have D4:=hid X4.out.drew
 have RG:Hid (∀ W,W = w4.drew→W.rangeAt _ 0 _):=hid (fun W hW => by rw [hW]; exact X4.out.has.range)
 refine zGv (· = w4.drew) [0,1,2,3,4] [5,6,7,8] (by kernel_rfl) (by kernel_rfl) rfl ?_
 simp only [opsAt,List.getElem?_toArray,List.getElem?_cons_zero,List.getElem?_cons_succ]
 repeat
  (first
   | refine zJz (zHw (by rfl) 78 _ rfl rfl (fun W hW => RG.out W hW) Tryz.rowSr Tryz.sizeSr) ?_
   | (refine zCz (v:=?_) ?_ ?_ ?_; rotate_left; (· rfl); (· (intro W hW; go_simp <;> rfl))))
  simp only [Act.put,List.setIfInBounds_toArray,List.set_cons_zero,List.set_cons_succ]
 refine zEe ?_
 intro W hW
 subst hW
 go_wp2_with fail
 refine (add_stat D4.out.bw ⟨(pxV (mustS (isW [114,111,117,116,101] p) (optS [114,111,117,116,101] p))).1,(pxV (mustS (isW [114,111,117,116,101] p) (optS [114,111,117,116,101] p))).2,0,[],false,5,0⟩ one hbd).mono ?_
 rintro e w5 ⟨gg,cap,cur,rfl,h5, -⟩
 have H5:=hid (h5.less (fun _ hk => List.mem_cons_of_mem _ hk))
 clear h5
 go_wp2_with fail
 refine (new_static _ _).mono ?_
 rintro e w6 ⟨rfl,rfl⟩
 have H6:=hid (H5.out.box (.cells #[.pointer (some ⟨gg,r.stat.length * 7,none⟩)] 227))
 go_wp2_with fail
 go_ret2
 exact ⟨_,some .static,_,_,[_],_,E.out _,rfl,H6.out,fun _ => ⟨rfl,rfl,rfl,rfl,rfl,rfl⟩,fun _ q => q,⟨by decide,rfl,gg,cap,r.stat,_,_,rfl,rfl,rfl,List.mem_cons_self⟩,fun k hk => by obtain rfl:=List.mem_singleton.1 hk; exact ⟨_,_,rfl⟩⟩
theorem clauses_form:FormC .clauses:=by
 intro g B b k w0 w r K kb p fv h hf he hs hr hk
 obtain ⟨gg,cap,l0,x,q,e1,e2,rfl,e4⟩:=hf
 refine ⟨206,#[],#[.pointer (some ⟨q,0,none⟩)],rfl,enters_of Tryz.func206 (by kernel_rfl) rfl,?_⟩
 show Calls Tryz.prog 206 #[.pointer (some ⟨b,0,none⟩),.pointer (some ⟨q,0,none⟩)] w _
 have HL:=hid e1
 have HV:=hid e2
 have HQ:=hid e4
 clear e1 e2 e4
 have H:=hid h
 have HE:=hid he
 have HS:=hid hs
 have HR:=hid hr
 have HK:=hid hk
 clear h he hs hr hk
 have H0:=H
 go_enter Tryz.func206,Tryz.ntmps206
 have E:Hid (∀ v:Value,zJo r.plain p = ([],some .clause,({ r with maps:=l0 ++ [⟨x.name,v,x.clauses ++ [⟨true,[], -1, -1, -1, -1,0⟩]⟩] }:Rt).plain,(mustS (isW [116,101,114,109] p) (optS [116,101,114,109] p)))):=hid (fun v => by unfold zJo; simp only [Rt.plain,HL.out,List.map_append,List.map_cons,List.map_nil,zDc])
 have hbd:x.clauses.length≤1000000000:=(by have h:=rulesM HR.out (x:=x) (by rw [HL.out]; simp); have:=HK.out; omega)
 have one:(Cl.C ⟨true,[], -1, -1, -1, -1,0⟩).all (·.oneCell') = true:=(by simp [Cl.C,strV,Value.oneCell']) 
 go_wp2_with fail
 refine (zBj b B p [116,101,114,109] _ H0.out.st).mono ?_
 rintro e w1 ⟨rfl,h1,k1⟩
 have H1:=hid (H0.out.word h1 k1)
 clear h1 k1
 go_wp2_with fail
 refine (zDs b B (optS [116,101,114,109] p) _ _ H1.out.st).mono ?_
 rintro e w2 ⟨rfl,h2,k2⟩
 have H2:=hid (H1.out.word h2 k2)
 clear h2 k2
 go_upto_region 3 with (first | (refine zAc rfl 138 _ _ rfl rfl (ds:=Cl.C ⟨true,[], -1, -1, -1, -1,0⟩) rfl (HasC.new _ _ _) rfl Tryz.sizeCl one ?_; intro w3 hz1 hz2))
 have X3:=hid (BX.newc H2.out hz1 (zAh hz2))
 clear hz1 hz2
 skip
 go_wp2_with fail
 have D3:=hid X3.out.drew
 have RG:Hid (∀ W,W = w3.drew→W.rangeAt _ 0 _):=hid (fun W hW => by rw [hW]; exact X3.out.has.range)
 have CK:Hid (∀ W,W = w3.drew→W.cell? ⟨q,0,none⟩ = some _):=hid (fun W hW => by rw [hW]; exact X3.out.bw.kc (List.mem_cons_of_mem _ HQ.out))
 refine zGv (· = w3.drew) [0,1,2,3] [4,5,6,7] (by kernel_rfl) (by kernel_rfl) rfl ?_
 simp only [opsAt,List.getElem?_toArray,List.getElem?_cons_zero,List.getElem?_cons_succ]
 repeat
  (first
   | refine zJz (zHw (by rfl) 138 _ rfl rfl (fun W hW => RG.out W hW) Tryz.rowCl Tryz.sizeCl) ?_
   | (refine zCz (v:=?_) ?_ ?_ ?_; rotate_left; (· rfl); (· (intro W hW; have kc:=CK.out W hW; clear hW; go_simp <;> rfl))))
  simp only [Act.put,List.setIfInBounds_toArray,List.set_cons_zero,List.set_cons_succ]
 refine zEe ?_
 intro W hW
 subst hW
 go_wp2_with fail
 refine (add_clauses D3.out.bw HL.out HV.out ⟨true,[], -1, -1, -1, -1,0⟩ one hbd).mono ?_
 rintro e w4 ⟨g2,cap2,rfl,h4⟩
 have H4:=hid (h4.less (K' := K) (fun _ hk => by simp [hk]))
 clear h4
 go_wp2_with fail
 refine (new_clause _ _).mono ?_
 rintro e w5 ⟨rfl,rfl⟩
 have H5:=hid (H4.out.box (.cells #[.pointer (some ⟨g2,x.clauses.length * 7,none⟩)] 216))
 go_wp2_with fail
 go_ret2
 exact ⟨[],some .clause,_,_,[_],_,E.out _,rfl,H5.out,fun _ => ⟨rfl,rfl,rfl,by rw [HL.out]; simp,rfl,rfl⟩,fun _ h => ElV.stay h rfl (by rw [HL.out]; simp) (fun _ h => h),⟨by decide,rfl,l0,_,rfl,g2,cap2,x.clauses,_,_,rfl,rfl,rfl,List.mem_cons_self⟩,fun k hk => by obtain rfl:=List.mem_singleton.1 hk; exact ⟨_,_,rfl⟩⟩
theorem rules_form:FormC .rules:=by
 intro g B b k w0 w r K kb p fv h hf he hs hr hk
 obtain ⟨gg,cap,l0,x,q,e1,e2,rfl,e4⟩:=hf
 refine ⟨209,#[],#[.pointer (some ⟨q,0,none⟩)],rfl,enters_of Tryz.func209 (by kernel_rfl) rfl,?_⟩
 show Calls Tryz.prog 209 #[.pointer (some ⟨b,0,none⟩),.pointer (some ⟨q,0,none⟩)] w _
 have HL:=hid e1
 have HV:=hid e2
 have HQ:=hid e4
 clear e1 e2 e4
 have H:=hid h
 have HE:=hid he
 have HS:=hid hs
 have HR:=hid hr
 have HK:=hid hk
 clear h he hs hr hk
 have H0:=H
 go_enter Tryz.func209,Tryz.ntmps209
 have E:Hid (∀ v:Value,rulesF r.plain p = ([],some .rule,({ r with acls:=l0 ++ [⟨x.name,v,x.rules ++ [⟨true, -1,0,4294967295,0,4294967295,0,65535,0,65535⟩]⟩] }:Rt).plain,(mustS (isW [116,101,114,109] p) (optS [116,101,114,109] p)))):=hid (fun v => by unfold rulesF; simp only [Rt.plain,HL.out,List.map_append,List.map_cons,List.map_nil,zDc])
 have hbd:x.rules.length≤1000000000:=(by have h:=(rulesA HR.out (x:=x) (by rw [HL.out]; simp)).1; have:=HK.out; omega)
 have one:(Ru.C ⟨true, -1,0,4294967295,0,4294967295,0,65535,0,65535⟩).all (·.oneCell') = true:=(by simp [Ru.C,Value.oneCell']) 
 go_wp2_with fail
 refine (zBj b B p [116,101,114,109] _ H0.out.st).mono ?_
 rintro e w1 ⟨rfl,h1,k1⟩
 have H1:=hid (H0.out.word h1 k1)
 clear h1 k1
 go_wp2_with fail
 refine (zDs b B (optS [116,101,114,109] p) _ _ H1.out.st).mono ?_
 rintro e w2 ⟨rfl,h2,k2⟩
 have H2:=hid (H1.out.word h2 k2)
 clear h2 k2
 have hm32:maskN 32 = 4294967295:=by decide
 go_upto_region 3 with (go_at_call 187; refine (zFy _ _).mono ?_; rintro e w' ⟨rfl,rfl⟩; rw [hm32])
 have X3:=hid (BX.new H2.out 140 #[.int .u32 0,.int .u32 4294967295])
 change Code.wp _ _ _ _ (w2.alloc (.cells #[.int .u32 0,.int .u32 4294967295] 140))
 generalize w2.alloc (.cells #[.int .u32 0,.int .u32 4294967295] 140) = w3 at X3 ⊢
 go_upto_region 4 with (fail)
 have X4:=hid (BX.new X3.out.bw 142 #[.int .i64 0,.int .i64 65535])
 change Code.wp _ _ _ _ (w3.alloc (.cells #[.int .i64 0,.int .i64 65535] 142))
 generalize w3.alloc (.cells #[.int .i64 0,.int .i64 65535] 142) = w4 at X4 ⊢
 have cw0:w4.cell? ⟨w2.heap.size,0,none⟩ = .some (.int .u32 0):=HasC.cell (X4.out.bw.keep _ (List.mem_cons_of_mem _ List.mem_cons_self)).1 0
 have cp0:w4.cell? ⟨w3.heap.size,0,none⟩ = .some (.int .i64 0):=X4.out.cell 0
 have cw1:w4.cell? ⟨w2.heap.size,1,none⟩ = .some (.int .u32 4294967295):=HasC.cell (X4.out.bw.keep _ (List.mem_cons_of_mem _ List.mem_cons_self)).1 1
 have cp1:w4.cell? ⟨w3.heap.size,1,none⟩ = .some (.int .i64 65535):=X4.out.cell 1
 go_upto_region 5 with (first | (refine zAc rfl 144 _ _ rfl rfl (ds:=Ru.C ⟨true, -1,0,4294967295,0,4294967295,0,65535,0,65535⟩) rfl (HasC.new _ _ _) rfl Tryz.sizeRu one ?_; intro w5 hz1 hz2))
 have X5:=hid (BX.newc X4.out.bw hz1 (zAh hz2))
 clear hz1 hz2
 skip
 go_wp2_with fail
 have D5:=hid X5.out.drew
 have RG:Hid (∀ W,W = w5.drew→W.rangeAt _ 0 _):=hid (fun W hW => by rw [hW]; exact X5.out.has.range)
 have CK:Hid (∀ W,W = w5.drew→W.cell? ⟨q,0,none⟩ = some _):=hid (fun W hW => by rw [hW]; exact X5.out.bw.kc (List.mem_cons_of_mem _ (List.mem_cons_of_mem _ (List.mem_cons_of_mem _ HQ.out))))
 refine zGv (· = w5.drew) [0,1,2,3] [4,5,6,7] (by kernel_rfl) (by kernel_rfl) rfl ?_
 simp only [opsAt,List.getElem?_toArray,List.getElem?_cons_zero,List.getElem?_cons_succ]
 repeat
  (first
   | refine zJz (zHw (by rfl) 144 _ rfl rfl (fun W hW => RG.out W hW) Tryz.rowRu Tryz.sizeRu) ?_
   | (refine zCz (v:=?_) ?_ ?_ ?_; rotate_left; (· rfl); (· (intro W hW; have kc:=CK.out W hW; clear hW; go_simp <;> rfl))))
  simp only [Act.put,List.setIfInBounds_toArray,List.set_cons_zero,List.set_cons_succ]
 refine zEe ?_
 intro W hW
 subst hW
 go_wp2_with fail
 refine (add_rules D5.out.bw HL.out HV.out ⟨true, -1,0,4294967295,0,4294967295,0,65535,0,65535⟩ one hbd).mono ?_
 rintro e w6 ⟨g2,cap2,rfl,h6⟩
 have H6:=hid (h6.less (K' := K) (fun _ hk => by simp [hk]))
 clear h6
 go_wp2_with fail
 refine (new_rule _ _).mono ?_
 rintro e w7 ⟨rfl,rfl⟩
 have H7:=hid (H6.out.box (.cells #[.pointer (some ⟨g2,x.rules.length * 10,none⟩)] 218))
 go_wp2_with fail
 go_ret2
 exact ⟨[],some .rule,_,_,[_],_,E.out _,rfl,H7.out,fun _ => ⟨rfl,rfl,rfl,rfl,rfl,by rw [HL.out]; simp⟩,fun _ h => ElV.stay h rfl (by rw [HL.out]; simp) (fun _ h => h),⟨by decide,rfl,l0,_,rfl,g2,cap2,x.rules,_,_,rfl,rfl,rfl,List.mem_cons_self⟩,fun k hk => by obtain rfl:=List.mem_singleton.1 hk; exact ⟨_,_,rfl⟩⟩
theorem top_form:FormC .top:=by
 intro g B b k w0 w r K kb p fv h hf he hs hr hk
 obtain rfl:fv = .func (.func 68) #[.pointer (some ⟨g,0,none⟩)] #[]:=hf
 refine ⟨68,#[.pointer (some ⟨g,0,none⟩)],#[],rfl,enters_of Tryz.func68 (by kernel_rfl) rfl,?_⟩
 show Calls Tryz.prog 68 #[.pointer (some ⟨g,0,none⟩),.pointer (some ⟨b,0,none⟩)] w _
 have H:=hid h
 have HE:=hid he
 have HS:=hid hs
 have HR:=hid hr
 have HK:=hid hk
 clear h he hs hr hk
 have q0:((str (wV p)).toList == [115,121,115,116,101,109]) = (wV p == [115,121,115,116,101,109]):=by rw [zAb]
 have q1:((str (wV p)).toList == [105,110,116,101,114,102,97,99,101,115]) = (wV p == [105,110,116,101,114,102,97,99,101,115]):=by rw [zAb]
 have q2:((str (wV p)).toList == [112,114,101,102,105,120,45,108,105,115,116]) = (wV p == [112,114,101,102,105,120,45,108,105,115,116]):=by rw [zAb]
 have q3:((str (wV p)).toList == [112,111,108,105,99,121]) = (wV p == [112,111,108,105,99,121]):=by rw [zAb]
 have q4:((str (wV p)).toList == [102,105,108,116,101,114]) = (wV p == [102,105,108,116,101,114]):=by rw [zAb]
 have q5:((str (wV p)).toList == [116,114,97,110,115,108,97,116,105,111,110]) = (wV p == [116,114,97,110,115,108,97,116,105,111,110]):=by rw [zAb]
 have q6:((str (wV p)).toList == [115,116,97,116,105,99]) = (wV p == [115,116,97,116,105,99]):=by rw [zAb]
 have q7:((str (wV p)).toList == [108,105,110,107,45,115,116,97,116,101]) = (wV p == [108,105,110,107,45,115,116,97,116,101]):=by rw [zAb]
 have q8:((str (wV p)).toList == [100,105,115,116,97,110,99,101,45,118,101,99,116,111,114]) = (wV p == [100,105,115,116,97,110,99,101,45,118,101,99,116,111,114]):=by rw [zAb]
 have q9:((str (wV p)).toList == [112,97,116,104,45,118,101,99,116,111,114]) = (wV p == [112,97,116,104,45,118,101,99,116,111,114]):=by rw [zAb]
 have hmf:∀ (fn:Fn) (first cap:Array Value) (w:World),(Instr.makeFunc fn first cap).run Tryz.prog w = .ok (.func fn first cap) w:=fun _ _ _ _ => rfl
 have s1:=zCl HS.out
 have s2:(str (nmV (wS p))).size≤1000000000:=zCl (zBg HS.out)
 have b1:¬ (9223372036854775807 < (str (wV p)).size + 1):=by omega
 have b2:¬ (9223372036854775807 < (str (wV p)).size + 1 + (str (nmV (wS p))).size):=by omega
 go_enter Tryz.func68,Tryz.ntmps68
 go_wp2_with fail
 refine (zBl b B p _ H.out.st).mono ?_
 rintro e w1 ⟨rfl,h1,k1⟩
 have H1:=hid (H.out.word h1 k1)
 clear h1 k1
 unfold strV
 cases e0:(wV p == [115,121,115,116,101,109]) with
 | true =>
  rw [e0] at q0
  have E:Hid (topF r.plain p = (wV p,some .system,(r).plain,wS p)):=hid (by unfold topF; rw [e0]; rfl)
  go_wp2_with fail
  go_ret2
  exact ⟨_,some .system,r,_,[],_,E.out,rfl,H1.out,fun h => absurd rfl h,fun _ q => q,⟨by decide,rfl,rfl⟩,fun _ h => by cases h⟩
 | false =>
  rw [e0] at q0
  cases e1:(wV p == [105,110,116,101,114,102,97,99,101,115]) with
  | true =>
   rw [e1] at q1
   have E:Hid (topF r.plain p = (wV p,some .interfaces,(r).plain,wS p)):=hid (by unfold topF; rw [e0,e1]; rfl)
   go_wp2_with fail
   go_ret2
   exact ⟨_,some .interfaces,r,_,[],_,E.out,rfl,H1.out,fun h => absurd rfl h,fun _ q => q,⟨by decide,rfl,rfl⟩,fun _ h => by cases h⟩
  | false =>
   rw [e1] at q1
   cases e2:(wV p == [112,114,101,102,105,120,45,108,105,115,116]) with
   | true =>
    rw [e2] at q2
    have E:Hid (∀ v:Value,topF r.plain p = (nmK (wV p) (nmV (wS p)),some .prefixRules,({ r with listsV:=v,lists:=r.lists ++ [⟨nmV (wS p),.slice none 0 0,[]⟩] }:Rt).plain,nmS (wS p))):=hid (fun v => by unfold topF; rw [e0,e1,e2]; simp only [Bool.false_eq_true,if_false,if_true,Rt.plain,List.map_append,List.map_cons,List.map_nil])
    have ret:∀ iv:Value,Ending.returned (.tuple #[.string (str (wV p) ++ ⟨#[32]⟩ ++ str (nmV (wS p))),iv]) = .returned (.tuple #[strV (nmK (wV p) (nmV (wS p))),iv]):=fun iv => by rw [zFg]; rfl
    have hbd:r.lists.length≤1000000000:=(by have h:=HR.out.lists.1; rw [lenL] at h; have:=HK.out; omega)
    go_wp2_with fail
    have D1:=hid H1.out.drew
    go_region_held3 (fun _ => True) (trivial) (first | ((with_reducible refine (zCu b B (wS p) _ D1.out.st).mono ?_); rintro e w2 ⟨rfl,h2,k2⟩; have H2:=hid (D1.out.word h2 k2); clear h2 k2; unfold strV) | ((refine (add_lists H2.out (nmV (wS p)) hbd).mono ?_); rintro e w3 ⟨gg,cap,cur,rfl,h3,a3⟩; have H3:=hid h3; have A3:=hid a3; clear h3 a3))
    go_wp2_with fail
    have D3:=hid H3.out.drew
    have cn:w3.drew.cell? ⟨gg,r.lists.length * 2,none⟩ = some (.string (str (nmV (wS p)))):=A3.out.cell (j:=0) (show 0 < 2 from by decide)
    have gl:gg < w3.heap.size:=A3.out.lt
    have cna:∀ o,((w3.alloc o).drew).cell? ⟨gg,r.lists.length * 2,none⟩ = some (.string (str (nmV (wS p)))):=fun o => (World.cell?_alloc_lt w3 o ⟨gg,r.lists.length * 2,none⟩ gl).trans cn
    go_region_held3 (fun w' => w'.cell? ⟨gg,r.lists.length * 2,none⟩ = some (.string (str (nmV (wS p))))) (first | assumption | with_reducible exact cna _) (((with_reducible refine (new_prefixRules _ _).mono ?_); rintro e w4 ⟨rfl,rfl⟩; have H4:=hid (D3.out.box (.cells #[.pointer (some ⟨gg,r.lists.length * 2,none⟩)] 189))))
    all_goals
     go_wp2_with fail
     go_ret2
     exact ⟨_,some .prefixRules,_,_,[_],_,E.out _,ret _,H4.out,fun h => absurd rfl h,fun _ q => q,⟨by decide,rfl,gg,cap,r.lists,_,_,rfl,rfl,rfl,List.mem_cons_self⟩,fun k hk => by obtain rfl:=List.mem_singleton.1 hk; exact ⟨_,_,rfl⟩⟩
   | false =>
    rw [e2] at q2
    cases e3:(wV p == [112,111,108,105,99,121]) with
    | true =>
     rw [e3] at q3
     have E:Hid (∀ v:Value,topF r.plain p = (nmK (wV p) (nmV (wS p)),some .clauses,({ r with mapsV:=v,maps:=r.maps ++ [⟨nmV (wS p),.slice none 0 0,[]⟩] }:Rt).plain,nmS (wS p))):=hid (fun v => by unfold topF; rw [e0,e1,e2,e3]; simp only [Bool.false_eq_true,if_false,if_true,Rt.plain,List.map_append,List.map_cons,List.map_nil])
     have ret:∀ iv:Value,Ending.returned (.tuple #[.string (str (wV p) ++ ⟨#[32]⟩ ++ str (nmV (wS p))),iv]) = .returned (.tuple #[strV (nmK (wV p) (nmV (wS p))),iv]):=fun iv => by rw [zFg]; rfl
     have hbd:r.maps.length≤1000000000:=(by have h:=HR.out.maps.1; rw [lenM] at h; have:=HK.out; omega)
     go_wp2_with fail
     have D1:=hid H1.out.drew
     go_region_held3 (fun _ => True) (trivial) (first | ((with_reducible refine (zCu b B (wS p) _ D1.out.st).mono ?_); rintro e w2 ⟨rfl,h2,k2⟩; have H2:=hid (D1.out.word h2 k2); clear h2 k2; unfold strV) | ((refine (add_maps H2.out (nmV (wS p)) hbd).mono ?_); rintro e w3 ⟨gg,cap,cur,rfl,h3,a3⟩; have H3:=hid h3; have A3:=hid a3; clear h3 a3))
     go_wp2_with fail
     have D3:=hid H3.out.drew
     have cn:w3.drew.cell? ⟨gg,r.maps.length * 2,none⟩ = some (.string (str (nmV (wS p)))):=A3.out.cell (j:=0) (show 0 < 2 from by decide)
     have gl:gg < w3.heap.size:=A3.out.lt
     have cna:∀ o,((w3.alloc o).drew).cell? ⟨gg,r.maps.length * 2,none⟩ = some (.string (str (nmV (wS p)))):=fun o => (World.cell?_alloc_lt w3 o ⟨gg,r.maps.length * 2,none⟩ gl).trans cn
     go_region_held3 (fun w' => w'.cell? ⟨gg,r.maps.length * 2,none⟩ = some (.string (str (nmV (wS p))))) (first | assumption | with_reducible exact cna _) (((with_reducible refine (new_clauses _ _).mono ?_); rintro e w4 ⟨rfl,rfl⟩; have H4:=hid (D3.out.box (.cells #[.pointer (some ⟨gg,r.maps.length * 2,none⟩)] 193))))
     all_goals
      go_wp2_with fail
      go_ret2
      exact ⟨_,some .clauses,_,_,[_],_,E.out _,ret _,H4.out,fun h => absurd rfl h,fun _ q => q,⟨by decide,rfl,gg,cap,r.maps,_,_,rfl,rfl,rfl,List.mem_cons_self⟩,fun k hk => by obtain rfl:=List.mem_singleton.1 hk; exact ⟨_,_,rfl⟩⟩
    | false =>
     rw [e3] at q3
     cases e4:(wV p == [102,105,108,116,101,114]) with
     | true =>
      rw [e4] at q4
      have E:Hid (∀ v:Value,topF r.plain p = (nmK (wV p) (nmV (wS p)),some .rules,({ r with aclsV:=v,acls:=r.acls ++ [⟨nmV (wS p),.slice none 0 0,[]⟩] }:Rt).plain,nmS (wS p))):=hid (fun v => by unfold topF; rw [e0,e1,e2,e3,e4]; simp only [Bool.false_eq_true,if_false,if_true,Rt.plain,List.map_append,List.map_cons,List.map_nil])
      have ret:∀ iv:Value,Ending.returned (.tuple #[.string (str (wV p) ++ ⟨#[32]⟩ ++ str (nmV (wS p))),iv]) = .returned (.tuple #[strV (nmK (wV p) (nmV (wS p))),iv]):=fun iv => by rw [zFg]; rfl
      have hbd:r.acls.length≤1000000000:=(by have h:=HR.out.acls.1; rw [lenA] at h; have:=HK.out; omega)
      go_wp2_with fail
      have D1:=hid H1.out.drew
      go_region_held3 (fun _ => True) (trivial) (first | ((with_reducible refine (zCu b B (wS p) _ D1.out.st).mono ?_); rintro e w2 ⟨rfl,h2,k2⟩; have H2:=hid (D1.out.word h2 k2); clear h2 k2; unfold strV) | ((refine (add_acls H2.out (nmV (wS p)) hbd).mono ?_); rintro e w3 ⟨gg,cap,cur,rfl,h3,a3⟩; have H3:=hid h3; have A3:=hid a3; clear h3 a3))
      go_wp2_with fail
      have D3:=hid H3.out.drew
      have cn:w3.drew.cell? ⟨gg,r.acls.length * 2,none⟩ = some (.string (str (nmV (wS p)))):=A3.out.cell (j:=0) (show 0 < 2 from by decide)
      have gl:gg < w3.heap.size:=A3.out.lt
      have cna:∀ o,((w3.alloc o).drew).cell? ⟨gg,r.acls.length * 2,none⟩ = some (.string (str (nmV (wS p)))):=fun o => (World.cell?_alloc_lt w3 o ⟨gg,r.acls.length * 2,none⟩ gl).trans cn
      go_region_held3 (fun w' => w'.cell? ⟨gg,r.acls.length * 2,none⟩ = some (.string (str (nmV (wS p))))) (first | assumption | with_reducible exact cna _) (((with_reducible refine (new_rules _ _).mono ?_); rintro e w4 ⟨rfl,rfl⟩; have H4:=hid (D3.out.box (.cells #[.pointer (some ⟨gg,r.acls.length * 2,none⟩)] 197))))
      all_goals
       go_wp2_with fail
       go_ret2
       exact ⟨_,some .rules,_,_,[_],_,E.out _,ret _,H4.out,fun h => absurd rfl h,fun _ q => q,⟨by decide,rfl,gg,cap,r.acls,_,_,rfl,rfl,rfl,List.mem_cons_self⟩,fun k hk => by obtain rfl:=List.mem_singleton.1 hk; exact ⟨_,_,rfl⟩⟩
     | false =>
      rw [e4] at q4
      cases e5:(wV p == [116,114,97,110,115,108,97,116,105,111,110]) with
      | true =>
       rw [e5] at q5
       have E:Hid (topF r.plain p = (wV p,some .translations,(r).plain,wS p)):=hid (by unfold topF; rw [e0,e1,e2,e3,e4,e5]; rfl)
       go_wp2_with fail
       go_ret2
       exact ⟨_,some .translations,r,_,[],_,E.out,rfl,H1.out,fun h => absurd rfl h,fun _ q => q,⟨by decide,rfl,rfl⟩,fun _ h => by cases h⟩
      | false =>
       rw [e5] at q5
       cases e6:(wV p == [115,116,97,116,105,99]) with
       | true =>
        rw [e6] at q6
        have E:Hid (topF r.plain p = (wV p,some .statics,(r).plain,wS p)):=hid (by unfold topF; rw [e0,e1,e2,e3,e4,e5,e6]; rfl)
        go_wp2_with fail
        go_ret2
        exact ⟨_,some .statics,r,_,[],_,E.out,rfl,H1.out,fun h => absurd rfl h,fun _ q => q,⟨by decide,rfl,rfl⟩,fun _ h => by cases h⟩
       | false =>
        rw [e6] at q6
        cases e7:(wV p == [108,105,110,107,45,115,116,97,116,101]) with
        | true =>
         rw [e7] at q7
         have E:Hid (topF r.plain p = (wV p,some .linkState,({ r with lsOn:=true,lsAdmin:=10 }).plain,wS p)):=hid (by unfold topF; rw [e0,e1,e2,e3,e4,e5,e6,e7]; rfl)
         obtain ⟨y8,c8⟩:=H1.out.toBR.cellx 8 (by decide)
         have fz:=H1.out.toBR.frz
         obtain ⟨y9,c9⟩:=H1.out.toBR.cellx 9 (by decide)
         go_wp2_with fail
         clear c8 fz c9
         refine (new_linkState _ _).mono ?_
         rintro e w2 ⟨rfl,rfl⟩
         have H2:=hid (((H1.out.put (r' := { r with lsOn:=true }) 8 _ rfl rfl).put (r' := { r with lsOn:=true,lsAdmin:=10 }) 9 _ rfl rfl).box (.cells #[.pointer (some ⟨g,8,none⟩)] 202))
         go_wp2_with fail
         go_ret2
         exact ⟨_,some .linkState,{ r with lsOn:=true,lsAdmin:=10 },_,[_],_,E.out,rfl,H2.out,fun h => absurd rfl h,fun _ q => q,⟨by decide,rfl,_,rfl,by simp [World.setCell]⟩,fun k hk => by obtain rfl:=List.mem_singleton.1 hk; exact ⟨_,_,rfl⟩⟩
        | false =>
         rw [e7] at q7
         cases e8:(wV p == [100,105,115,116,97,110,99,101,45,118,101,99,116,111,114]) with
         | true =>
          rw [e8] at q8
          have E:Hid (topF r.plain p = (wV p,some .distance,({ r with dvOn:=true,dvAdmin:=100 }).plain,wS p)):=hid (by unfold topF; rw [e0,e1,e2,e3,e4,e5,e6,e7,e8]; rfl)
          obtain ⟨y12,c12⟩:=H1.out.toBR.cellx 12 (by decide)
          have fz:=H1.out.toBR.frz
          obtain ⟨y13,c13⟩:=H1.out.toBR.cellx 13 (by decide)
          go_wp2_with fail
          clear c12 fz c13
          refine (zKm _ _).mono ?_
          rintro e w2 ⟨rfl,rfl⟩
          have H2:=hid (((H1.out.put (r' := { r with dvOn:=true }) 12 _ rfl rfl).put (r' := { r with dvOn:=true,dvAdmin:=100 }) 13 _ rfl rfl).box (.cells #[.pointer (some ⟨g,12,none⟩)] 204))
          go_wp2_with fail
          go_ret2
          exact ⟨_,some .distance,{ r with dvOn:=true,dvAdmin:=100 },_,[_],_,E.out,rfl,H2.out,fun h => absurd rfl h,fun _ q => q,⟨by decide,rfl,_,rfl,by simp [World.setCell]⟩,fun k hk => by obtain rfl:=List.mem_singleton.1 hk; exact ⟨_,_,rfl⟩⟩
         | false =>
          rw [e8] at q8
          cases e9:(wV p == [112,97,116,104,45,118,101,99,116,111,114]) with
          | true =>
           rw [e9] at q9
           have E:Hid (topF r.plain p = (wV p,some .path,({ r with pvOn:=true,ext:=170,int:=170 }).plain,wS p)):=hid (by unfold topF; rw [e0,e1,e2,e3,e4,e5,e6,e7,e8,e9]; rfl)
           obtain ⟨y17,c17⟩:=H1.out.toBR.cellx 17 (by decide)
           have fz:=H1.out.toBR.frz
           obtain ⟨y18,c18⟩:=H1.out.toBR.cellx 18 (by decide)
           obtain ⟨y19,c19⟩:=H1.out.toBR.cellx 19 (by decide)
           go_wp2_with fail
           clear c17 fz c18 c19
           refine (new_pathVector _ _).mono ?_
           rintro e w2 ⟨rfl,rfl⟩
           have H2:=hid ((((H1.out.put (r' := { r with pvOn:=true }) 17 _ rfl rfl).put (r' := { r with pvOn:=true,ext:=170 }) 18 _ rfl rfl).put (r' := { r with pvOn:=true,ext:=170,int:=170 }) 19 _ rfl rfl).box (.cells #[.pointer (some ⟨g,17,none⟩)] 206))
           go_wp2_with fail
           go_ret2
           exact ⟨_,some .path,{ r with pvOn:=true,ext:=170,int:=170 },_,[_],_,E.out,rfl,H2.out,fun h => absurd rfl h,fun _ q => q,⟨by decide,rfl,_,rfl,by simp [World.setCell]⟩,fun k hk => by obtain rfl:=List.mem_singleton.1 hk; exact ⟨_,_,rfl⟩⟩
          | false =>
           rw [e9] at q9
           have E:Hid (topF r.plain p = ([],none,(r).plain,(wS p).fail)):=hid (by unfold topF; rw [e0,e1,e2,e3,e4,e5,e6,e7,e8,e9]; rfl)
           have fb:=H1.out.st.frz 2
           have cb:=H1.out.st.bad1
           go_wp2_with fail
           clear fb cb
           go_ret2
           exact ⟨_,none,r,_,[],.nilFunc,E.out,rfl,H1.out.bad,fun h => absurd rfl h,fun _ q => q,rfl,fun _ h => by cases h⟩
theorem zLw:FormC .translations:=by
 intro g B b k w0 w r K kb p fv h hf he hs hr hk
 obtain rfl:fv = .func (.func 146) #[.pointer (some ⟨g,0,none⟩)] #[]:=hf
 refine ⟨146,#[.pointer (some ⟨g,0,none⟩)],#[],rfl,enters_of Tryz.func146 (by kernel_rfl) rfl,?_⟩
 show Calls Tryz.prog 146 #[.pointer (some ⟨g,0,none⟩),.pointer (some ⟨b,0,none⟩)] w _
 have H:=hid h
 have HE:=hid he
 have HS:=hid hs
 have HR:=hid hr
 have HK:=hid hk
 clear h he hs hr hk
 have q0:((str (wV p)).toList == [115,116,97,116,105,99]) = (wV p == [115,116,97,116,105,99]):=by rw [zAb]
 have q1:((str (wV p)).toList == [112,111,111,108]) = (wV p == [112,111,111,108]):=by rw [zAb]
 have q2:((str (wV p)).toList == [102,111,114,119,97,114,100]) = (wV p == [102,111,114,119,97,114,100]):=by rw [zAb]
 go_enter Tryz.func146,Tryz.ntmps146
 go_upto_region 2 with (fail)
 have X0:=hid (BX.new H.out 74 (Tr.C ⟨0,0,0,0,0,0,[],0,0⟩))
 change Code.wp _ _ _ _ (w.alloc (.cells (Tr.C ⟨0,0,0,0,0,0,[],0,0⟩) 74))
 generalize w.alloc (.cells (Tr.C ⟨0,0,0,0,0,0,[],0,0⟩) 74) = wA at X0 ⊢
 go_wp2_with fail
 refine (zBl b B p _ X0.out.st).mono ?_
 rintro e w1 ⟨rfl,h1,k1⟩
 have H1:=hid (X0.out.word h1 k1)
 clear h1 k1
 unfold strV
 go_upto_block 0 with (fail)
 go_cut [] (fun wx => BX g B w0 r K (187,kb) b (natF p).2 w.heap.size 74 (Tr.C (natF p).1) wx)
 case first =>
  cases e0:(wV p == [115,116,97,116,105,99]) with
  | true =>
   rw [e0] at q0
   have EC:Hid (natF p = (⟨1,adV (wS p),adV (adS (wS p)),0,0,0,[],0,0⟩,adS (adS (wS p)))):=hid (by unfold natF; dsimp only; rw [e0]; rfl)
   obtain ⟨y0,c0⟩:=H1.out.cellx (j:=0) (show 0 < 9 from by decide)
   have fz:=H1.out.frz
   go_wp2_with fail
   clear c0 fz
   refine (zCm b B (wS p) _ (H1.out.put 0 _ rfl).st ((H1.out.put 0 _ rfl).env HE.out) (zBg HS.out)).mono ?_
   rintro e w2 ⟨rfl,h2,k2⟩
   have H2:=hid ((H1.out.put 0 _ rfl).word h2 k2)
   clear h2 k2
   obtain ⟨y1,c1⟩:=H2.out.cellx (j:=1) (show 1 < 9 from by decide)
   have fz:=H2.out.frz
   go_wp2_with fail
   clear c1 fz
   refine (zCm b B (adS (wS p)) _ (H2.out.put 1 _ rfl).st ((H2.out.put 1 _ rfl).env HE.out) (zMv (zBg HS.out))).mono ?_
   rintro e w3 ⟨rfl,h3,k3⟩
   have H3:=hid ((H2.out.put 1 _ rfl).word h3 k3)
   clear h3 k3
   obtain ⟨y2,c2⟩:=H3.out.cellx (j:=2) (show 2 < 9 from by decide)
   have fz:=H3.out.frz
   go_wp2_with fail
   clear c2 fz
   go_meet
   rw [EC.out]
   exact (H3.out.put 2 _ rfl)
  | false =>
   rw [e0] at q0
   cases e1:(wV p == [112,111,111,108]) with
   | true =>
    rw [e1] at q1
    have EC:Hid (natF p = (⟨2,0,0,0,0,0,nmV (wS p),adV (nmS (wS p)),adV (adS (nmS (wS p)))⟩,adS (adS (nmS (wS p))))):=hid (by unfold natF; dsimp only; rw [e0,e1]; rfl)
    obtain ⟨y0,c0⟩:=H1.out.cellx (j:=0) (show 0 < 9 from by decide)
    have fz:=H1.out.frz
    go_wp2_with fail
    clear c0 fz
    refine (zCu b B (wS p) _ (H1.out.put 0 _ rfl).st).mono ?_
    rintro e w2 ⟨rfl,h2,k2⟩
    have H2:=hid ((H1.out.put 0 _ rfl).word h2 k2)
    clear h2 k2
    unfold strV
    obtain ⟨y6,c6⟩:=H2.out.cellx (j:=6) (show 6 < 9 from by decide)
    have fz:=H2.out.frz
    go_wp2_with fail
    clear c6 fz
    refine (zCm b B (nmS (wS p)) _ (H2.out.put 6 _ rfl).st ((H2.out.put 6 _ rfl).env HE.out) (short_nm (zBg HS.out))).mono ?_
    rintro e w3 ⟨rfl,h3,k3⟩
    have H3:=hid ((H2.out.put 6 _ rfl).word h3 k3)
    clear h3 k3
    obtain ⟨y7,c7⟩:=H3.out.cellx (j:=7) (show 7 < 9 from by decide)
    have fz:=H3.out.frz
    go_wp2_with fail
    clear c7 fz
    refine (zCm b B (adS (nmS (wS p))) _ (H3.out.put 7 _ rfl).st ((H3.out.put 7 _ rfl).env HE.out) (zMv (short_nm (zBg HS.out)))).mono ?_
    rintro e w4 ⟨rfl,h4,k4⟩
    have H4:=hid ((H3.out.put 7 _ rfl).word h4 k4)
    clear h4 k4
    obtain ⟨y8,c8⟩:=H4.out.cellx (j:=8) (show 8 < 9 from by decide)
    have fz:=H4.out.frz
    go_wp2_with fail
    clear c8 fz
    go_meet
    rw [EC.out]
    exact (H4.out.put 8 _ rfl)
   | false =>
    rw [e1] at q1
    cases e2:(wV p == [102,111,114,119,97,114,100]) with
    | true =>
     rw [e2] at q2
     cases c:chB [116,99,112] [117,100,112] (wS p) with
     | true =>
      have EC:Hid (natF p = (⟨3,adV (noS 0 65535 (adS (chS [116,99,112] [117,100,112] (wS p)))),adV (chS [116,99,112] [117,100,112] (wS p)),6,noV 0 65535 (adS (noS 0 65535 (adS (chS [116,99,112] [117,100,112] (wS p))))),noV 0 65535 (adS (chS [116,99,112] [117,100,112] (wS p))),[],0,0⟩,noS 0 65535 (adS (noS 0 65535 (adS (chS [116,99,112] [117,100,112] (wS p))))))):=hid (by unfold natF; dsimp only; rw [e0,e1,e2,c]; rfl)
      have CC:=hid c
      clear c
      obtain ⟨y0,c0⟩:=H1.out.cellx (j:=0) (show 0 < 9 from by decide)
      have fz:=H1.out.frz
      obtain ⟨y3,c3⟩:=H1.out.cellx (j:=3) (show 3 < 9 from by decide)
      go_wp2_with fail
      clear c0 fz c3
      refine (zEh b B (wS p) [116,99,112] [117,100,112] _ ((H1.out.put 0 _ rfl).put 3 _ rfl).st).mono ?_
      rintro e w2 ⟨rfl,h2,k2⟩
      have H2:=hid (((H1.out.put 0 _ rfl).put 3 _ rfl).word h2 k2)
      clear h2 k2
      rw [CC.out]
      obtain ⟨y3,c3⟩:=H2.out.cellx (j:=3) (show 3 < 9 from by decide)
      have fz:=H2.out.frz
      go_wp2_with fail
      clear c3 fz
      refine (zCm b B (chS [116,99,112] [117,100,112] (wS p)) _ (H2.out.put 3 _ rfl).st ((H2.out.put 3 _ rfl).env HE.out) (zJj _ _ (zBg HS.out))).mono ?_
      rintro e w3 ⟨rfl,h3,k3⟩
      have H3:=hid ((H2.out.put 3 _ rfl).word h3 k3)
      clear h3 k3
      obtain ⟨y2,c2⟩:=H3.out.cellx (j:=2) (show 2 < 9 from by decide)
      have fz:=H3.out.frz
      go_wp2_with fail
      clear c2 fz
      refine (zAn b B (adS (chS [116,99,112] [117,100,112] (wS p))) 0 65535 _ (H3.out.put 2 _ rfl).st).mono ?_
      rintro e w4 ⟨rfl,h4,k4⟩
      have H4:=hid ((H3.out.put 2 _ rfl).word h4 k4)
      clear h4 k4
      obtain ⟨y5,c5⟩:=H4.out.cellx (j:=5) (show 5 < 9 from by decide)
      have fz:=H4.out.frz
      go_wp2_with fail
      clear c5 fz
      refine (zCm b B (noS 0 65535 (adS (chS [116,99,112] [117,100,112] (wS p)))) _ (H4.out.put 5 _ rfl).st ((H4.out.put 5 _ rfl).env HE.out) (short_no _ _ (zMv (zJj _ _ (zBg HS.out))))).mono ?_
      rintro e w5 ⟨rfl,h5,k5⟩
      have H5:=hid ((H4.out.put 5 _ rfl).word h5 k5)
      clear h5 k5
      obtain ⟨y1,c1⟩:=H5.out.cellx (j:=1) (show 1 < 9 from by decide)
      have fz:=H5.out.frz
      go_wp2_with fail
      clear c1 fz
      refine (zAn b B (adS (noS 0 65535 (adS (chS [116,99,112] [117,100,112] (wS p))))) 0 65535 _ (H5.out.put 1 _ rfl).st).mono ?_
      rintro e w6 ⟨rfl,h6,k6⟩
      have H6:=hid ((H5.out.put 1 _ rfl).word h6 k6)
      clear h6 k6
      obtain ⟨y4,c4⟩:=H6.out.cellx (j:=4) (show 4 < 9 from by decide)
      have fz:=H6.out.frz
      go_wp2_with fail
      clear c4 fz
      go_meet
      rw [EC.out]
      exact (H6.out.put 4 _ rfl)
     | false =>
      have EC:Hid (natF p = (⟨3,adV (noS 0 65535 (adS (chS [116,99,112] [117,100,112] (wS p)))),adV (chS [116,99,112] [117,100,112] (wS p)),17,noV 0 65535 (adS (noS 0 65535 (adS (chS [116,99,112] [117,100,112] (wS p))))),noV 0 65535 (adS (chS [116,99,112] [117,100,112] (wS p))),[],0,0⟩,noS 0 65535 (adS (noS 0 65535 (adS (chS [116,99,112] [117,100,112] (wS p))))))):=hid (by unfold natF; dsimp only; rw [e0,e1,e2,c]; rfl)
      have CC:=hid c
      clear c
      obtain ⟨y0,c0⟩:=H1.out.cellx (j:=0) (show 0 < 9 from by decide)
      have fz:=H1.out.frz
      obtain ⟨y3,c3⟩:=H1.out.cellx (j:=3) (show 3 < 9 from by decide)
      go_wp2_with fail
      clear c0 fz c3
      refine (zEh b B (wS p) [116,99,112] [117,100,112] _ ((H1.out.put 0 _ rfl).put 3 _ rfl).st).mono ?_
      rintro e w2 ⟨rfl,h2,k2⟩
      have H2:=hid (((H1.out.put 0 _ rfl).put 3 _ rfl).word h2 k2)
      clear h2 k2
      rw [CC.out]
      go_wp2_with fail
      refine (zCm b B (chS [116,99,112] [117,100,112] (wS p)) _ H2.out.st (H2.out.env HE.out) (zJj _ _ (zBg HS.out))).mono ?_
      rintro e w3 ⟨rfl,h3,k3⟩
      have H3:=hid (H2.out.word h3 k3)
      clear h3 k3
      obtain ⟨y2,c2⟩:=H3.out.cellx (j:=2) (show 2 < 9 from by decide)
      have fz:=H3.out.frz
      go_wp2_with fail
      clear c2 fz
      refine (zAn b B (adS (chS [116,99,112] [117,100,112] (wS p))) 0 65535 _ (H3.out.put 2 _ rfl).st).mono ?_
      rintro e w4 ⟨rfl,h4,k4⟩
      have H4:=hid ((H3.out.put 2 _ rfl).word h4 k4)
      clear h4 k4
      obtain ⟨y5,c5⟩:=H4.out.cellx (j:=5) (show 5 < 9 from by decide)
      have fz:=H4.out.frz
      go_wp2_with fail
      clear c5 fz
      refine (zCm b B (noS 0 65535 (adS (chS [116,99,112] [117,100,112] (wS p)))) _ (H4.out.put 5 _ rfl).st ((H4.out.put 5 _ rfl).env HE.out) (short_no _ _ (zMv (zJj _ _ (zBg HS.out))))).mono ?_
      rintro e w5 ⟨rfl,h5,k5⟩
      have H5:=hid ((H4.out.put 5 _ rfl).word h5 k5)
      clear h5 k5
      obtain ⟨y1,c1⟩:=H5.out.cellx (j:=1) (show 1 < 9 from by decide)
      have fz:=H5.out.frz
      go_wp2_with fail
      clear c1 fz
      refine (zAn b B (adS (noS 0 65535 (adS (chS [116,99,112] [117,100,112] (wS p))))) 0 65535 _ (H5.out.put 1 _ rfl).st).mono ?_
      rintro e w6 ⟨rfl,h6,k6⟩
      have H6:=hid ((H5.out.put 1 _ rfl).word h6 k6)
      clear h6 k6
      obtain ⟨y4,c4⟩:=H6.out.cellx (j:=4) (show 4 < 9 from by decide)
      have fz:=H6.out.frz
      go_wp2_with fail
      clear c4 fz
      go_meet
      rw [EC.out]
      exact (H6.out.put 4 _ rfl)
    | false =>
     rw [e2] at q2
     have EC:Hid (natF p = (⟨0,0,0,0,0,0,[],0,0⟩,(wS p).fail)):=hid (by unfold natF; dsimp only; rw [e0,e1,e2]; rfl)
     have fb:=H1.out.st.frz 2
     have cb:=H1.out.st.bad1
     go_wp2_with fail
     clear fb cb
     go_meet
     rw [EC.out]
     exact H1.out.bad
 case rest =>
  have hpl:zEs r.plain p = ([],none,{ r.plain with nat:=r.plain.nat ++ [(natF p).1] },(natF p).2):=rfl
  generalize natF p = xp at hcut hpl
  obtain ⟨x,p'⟩:=xp
  dsimp only at hcut hpl
  have E:=hid hpl
  have MX:=hid hcut
  clear hcut hpl
  have hm:rowE 74 9 Tr.C r.natV r.nat ∈ btR r:=List.mem_of_getElem? (i:=1) rfl
  have hbd:r.nat.length≤1000000000:=(by have h:=HR.out.nat.1; replace h:r.nat.length≤k:=h; have:=HK.out; omega)
  have MD:=hid MX.out.drew
  have ho:OwnE wc.drew B 74 9 Tr.C r.natV r.nat:=rowE_own.1 (MD.out.bw.own.1 _ hm)
  obtain ⟨A0,c0,hnv, -⟩:=ho.slv
  obtain ⟨A5,m5,c5,wz,hr,ho5,hg5,hn5⟩:=ho.push (P:=Tryz.prog) (Nat.le_trans MD.out.bw.bB MD.out.bw.size) kTr.sl kTr.info (by decide) (fun _ => rfl) x (Tr.one x) (by omega) (by decide) 26
  have hne:r.natV.ownBlock≠some g:=fun e => MX.out.bw.gr (List.mem_filterMap.2 ⟨_,hm,e⟩)
  obtain ⟨c6,f6⟩:=zCf hg5 hne (MD.out.bw.toBR.cell 6) (MD.out.bw.toBR.frz 6)
  have cr:wc.cell? ⟨g,6,none⟩ = some (.slice A0 r.nat.length c0):=by rw [← hnv]; exact MX.out.bw.toBR.cell 6
  have cra:∀ o,(wc.alloc o).cell? ⟨g,6,none⟩ = some (.slice A0 r.nat.length c0):=fun o => (World.cell?_alloc_lt wc o ⟨g,6,none⟩ MX.out.bw.toBR.lt).trans cr
  have cx0:wc.cell? ⟨w.heap.size,0,none⟩ = .some (.int .i64 x.kind):=MX.out.cell 0
  have cx1:wc.cell? ⟨w.heap.size,1,none⟩ = .some (.int .u32 (x.ins:Int)):=MX.out.cell 1
  have cx2:wc.cell? ⟨w.heap.size,2,none⟩ = .some (.int .u32 (x.outs:Int)):=MX.out.cell 2
  have cx3:wc.cell? ⟨w.heap.size,3,none⟩ = .some (.int .i64 x.proto):=MX.out.cell 3
  have cx4:wc.cell? ⟨w.heap.size,4,none⟩ = .some (.int .i64 x.iport):=MX.out.cell 4
  have cx5:wc.cell? ⟨w.heap.size,5,none⟩ = .some (.int .i64 x.oport):=MX.out.cell 5
  have cx6:wc.cell? ⟨w.heap.size,6,none⟩ = .some (strV x.list):=MX.out.cell 6
  have cx7:wc.cell? ⟨w.heap.size,7,none⟩ = .some (.int .u32 (x.lo:Int)):=MX.out.cell 7
  have cx8:wc.cell? ⟨w.heap.size,8,none⟩ = .some (.int .u32 (x.hi:Int)):=MX.out.cell 8
  have HB5:Hid (BW g B w0 { r with natV:=.slice A5 m5 c5,nat:=r.nat ++ [x] } K (187,kb) b p' (wz.setCell ⟨g,6,none⟩ (.slice A5 m5 c5))):=hid ((MD.out.bw.grow (r' := { r with natV:=.slice A5 m5 c5,nat:=r.nat ++ [x] }) (v:=r.natV) (v' := .slice A5 m5 c5) (l:=r.nat) (l' := r.nat ++ [x]) (E:=74) (n:=9) (C:=Tr.C) (ex:=[]) (zEd (t:=(btR r).take 1) (z:=(btR r).drop 2) rfl) (zEd (t:=(btR r).take 1) (z:=(btR r).drop 2) rfl) (fun o ho => by cases ho) ho5 hg5 hn5 rfl).less (fun _ hk => List.mem_cons_of_mem _ hk))
  rw [hnv] at hr
  have HR5:=hid hr
  clear hr ho5 hn5 hg5 ho hm hne
  go_wp2_with fail
  go_region_law (refine zBi rfl _ _ 26 26 rfl (.slice A0 r.nat.length c0) (.slice (some ⟨wc.heap.size,0,none⟩) 1 1) (by simp [Act.eval]) (by simp [Act.eval]) HR5.out ?_)
  all_goals
   go_wp2_with fail
   go_ret2
   exact ⟨[],none,{ r with natV:=.slice A5 m5 c5,nat:=r.nat ++ [x] },p', [],.nilFunc,E.out,rfl,HB5.out,fun _ => ⟨rfl,rfl,rfl,rfl,rfl,rfl⟩,fun _ q => q,rfl,fun _ h => by cases h⟩
theorem zMp:FormC .prefixRules:=by
 intro g B b k w0 w r K kb p fv h hf he hs hr hk
 obtain ⟨gg,cap,l0,x,q,e1,e2,rfl,e4⟩:=hf
 refine ⟨202,#[],#[.pointer (some ⟨q,0,none⟩)],rfl,enters_of Tryz.func202 (by kernel_rfl) rfl,?_⟩
 show Calls Tryz.prog 202 #[.pointer (some ⟨b,0,none⟩),.pointer (some ⟨q,0,none⟩)] w _
 have HL:=hid e1
 have HV:=hid e2
 have HQ:=hid e4
 clear e1 e2 e4
 have H:=hid h
 have HE:=hid he
 have HS:=hid hs
 have HR:=hid hr
 have HK:=hid hk
 clear h he hs hr hk
 have H0:=H
 go_enter Tryz.func202,Tryz.ntmps202
 go_wp2_with fail
 refine (zEh b B p [112,101,114,109,105,116] [100,101,110,121] _ H0.out.st).mono ?_
 rintro e w1 ⟨rfl,h1,k1⟩
 have H1:=hid (H0.out.word h1 k1)
 clear h1 k1
 go_wp2_with fail
 refine (zEz b B (chS [112,101,114,109,105,116] [100,101,110,121] p) _ H1.out.st (H1.out.toBR.env HE.out) (zJj _ _ HS.out)).mono ?_
 rintro e w2 ⟨rfl,h2,k2⟩
 have H2:=hid (H1.out.word h2 k2)
 clear h2 k2
 have one:(PRule.C ⟨chB [112,101,114,109,105,116] [100,101,110,121] p,(pxV (chS [112,101,114,109,105,116] [100,101,110,121] p)).1,(pxV (chS [112,101,114,109,105,116] [100,101,110,121] p)).2,0,0⟩).all (·.oneCell') = true:=PRule.one _
 go_upto_region 2 with (first | (refine zAc rfl 136 _ _ rfl rfl (ds:=PRule.C ⟨chB [112,101,114,109,105,116] [100,101,110,121] p,(pxV (chS [112,101,114,109,105,116] [100,101,110,121] p)).1,(pxV (chS [112,101,114,109,105,116] [100,101,110,121] p)).2,0,0⟩) rfl (HasC.new _ _ _) rfl Tryz.sizePRule one ?_; intro w3 hz1 hz2))
 have X3:=hid (BX.newc H2.out hz1 (zAh hz2))
 clear hz1 hz2
 have n2:w3.cell? ⟨w2.heap.size,2,none⟩ = .some (.int .i64 (pxV (chS [112,101,114,109,105,116] [100,101,110,121] p)).2):=X3.out.cell 2
 obtain ⟨y3,c3⟩:=X3.out.cellx (j:=3) (show 3 < 5 from by decide)
 have fz:=X3.out.frz
 obtain ⟨y4,c4⟩:=X3.out.cellx (j:=4) (show 4 < 5 from by decide)
 go_upto_block 0 with (fail)
 clear n2 c3 c4 fz
 go_cut [] (fun wx => BX g B w0 r K (187,kb) b (zEv (pxV (chS [112,101,114,109,105,116] [100,101,110,121] p)).2 (pxS (chS [112,101,114,109,105,116] [100,101,110,121] p))).2.2 w2.heap.size 136 (PRule.C ⟨chB [112,101,114,109,105,116] [100,101,110,121] p,(pxV (chS [112,101,114,109,105,116] [100,101,110,121] p)).1,(pxV (chS [112,101,114,109,105,116] [100,101,110,121] p)).2,(zEv (pxV (chS [112,101,114,109,105,116] [100,101,110,121] p)).2 (pxS (chS [112,101,114,109,105,116] [100,101,110,121] p))).1,(zEv (pxV (chS [112,101,114,109,105,116] [100,101,110,121] p)).2 (pxS (chS [112,101,114,109,105,116] [100,101,110,121] p))).2.1⟩) wx)
 case first =>
  have H3:Hid (BX g B w0 r K (187,kb) b (pxS (chS [112,101,114,109,105,116] [100,101,110,121] p)) w2.heap.size 136 (PRule.C ⟨chB [112,101,114,109,105,116] [100,101,110,121] p,(pxV (chS [112,101,114,109,105,116] [100,101,110,121] p)).1,(pxV (chS [112,101,114,109,105,116] [100,101,110,121] p)).2,(pxV (chS [112,101,114,109,105,116] [100,101,110,121] p)).2,(pxV (chS [112,101,114,109,105,116] [100,101,110,121] p)).2⟩) _):=hid ((X3.out.put 3 _ rfl).put 4 _ rfl)
  clear X3
  cases c0:isW [101,120,97,99,116] (pxS (chS [112,101,114,109,105,116] [100,101,110,121] p)) with
  | true =>
   have C0:=hid c0
   clear c0
   have EC:Hid (zEv (pxV (chS [112,101,114,109,105,116] [100,101,110,121] p)).2 (pxS (chS [112,101,114,109,105,116] [100,101,110,121] p)) = ((pxV (chS [112,101,114,109,105,116] [100,101,110,121] p)).2,(pxV (chS [112,101,114,109,105,116] [100,101,110,121] p)).2,(optS [101,120,97,99,116] (pxS (chS [112,101,114,109,105,116] [100,101,110,121] p))))):=hid (by unfold zEv; rw [C0.out]; rfl)
   go_wp2_with fail
   refine (zBj b B (pxS (chS [112,101,114,109,105,116] [100,101,110,121] p)) [101,120,97,99,116] _ H3.out.st).mono ?_
   rintro e w4 ⟨rfl,h4,k4⟩
   have H4:=hid (H3.out.word h4 k4)
   clear h4 k4
   rw [C0.out]
   go_wp2_with fail
   go_meet
   rw [EC.out]
   exact H4.out
  | false =>
   have C0:=hid c0
   clear c0
   go_wp2_with fail
   refine (zBj b B (pxS (chS [112,101,114,109,105,116] [100,101,110,121] p)) [101,120,97,99,116] _ H3.out.st).mono ?_
   rintro e w4 ⟨rfl,h4,k4⟩
   rw [zHg C0.out] at h4
   have H4:=hid (H3.out.word h4 k4)
   clear h4 k4
   rw [C0.out]
   cases c1:isW [111,114,108,111,110,103,101,114] (pxS (chS [112,101,114,109,105,116] [100,101,110,121] p)) with
   | true =>
    have C1:=hid c1
    clear c1
    have EC:Hid (zEv (pxV (chS [112,101,114,109,105,116] [100,101,110,121] p)).2 (pxS (chS [112,101,114,109,105,116] [100,101,110,121] p)) = ((pxV (chS [112,101,114,109,105,116] [100,101,110,121] p)).2,32,(optS [111,114,108,111,110,103,101,114] (pxS (chS [112,101,114,109,105,116] [100,101,110,121] p))))):=hid (by unfold zEv; rw [C0.out,C1.out]; rfl)
    go_wp2_with fail
    refine (zBj b B (pxS (chS [112,101,114,109,105,116] [100,101,110,121] p)) [111,114,108,111,110,103,101,114] _ H4.out.st).mono ?_
    rintro e w5 ⟨rfl,h5,k5⟩
    have H5:=hid (H4.out.word h5 k5)
    clear h5 k5
    rw [C1.out]
    obtain ⟨y4,c4⟩:=H5.out.cellx (j:=4) (show 4 < 5 from by decide)
    have fz:=H5.out.frz
    go_wp2_with fail
    clear c4 fz
    go_meet
    rw [EC.out]
    exact (H5.out.put 4 _ rfl)
   | false =>
    have C1:=hid c1
    clear c1
    go_wp2_with fail
    refine (zBj b B (pxS (chS [112,101,114,109,105,116] [100,101,110,121] p)) [111,114,108,111,110,103,101,114] _ H4.out.st).mono ?_
    rintro e w5 ⟨rfl,h5,k5⟩
    rw [zHg C1.out] at h5
    have H5:=hid (H4.out.word h5 k5)
    clear h5 k5
    rw [C1.out]
    cases c2:isW [117,112,116,111] (pxS (chS [112,101,114,109,105,116] [100,101,110,121] p)) with
    | true =>
     have C2:=hid c2
     clear c2
     have EC:Hid (zEv (pxV (chS [112,101,114,109,105,116] [100,101,110,121] p)).2 (pxS (chS [112,101,114,109,105,116] [100,101,110,121] p)) = ((pxV (chS [112,101,114,109,105,116] [100,101,110,121] p)).2,noV 0 32 (optS [117,112,116,111] (pxS (chS [112,101,114,109,105,116] [100,101,110,121] p))),noS 0 32 (optS [117,112,116,111] (pxS (chS [112,101,114,109,105,116] [100,101,110,121] p))))):=hid (by unfold zEv; rw [C0.out,C1.out,C2.out]; rfl)
     go_wp2_with fail
     refine (zBj b B (pxS (chS [112,101,114,109,105,116] [100,101,110,121] p)) [117,112,116,111] _ H5.out.st).mono ?_
     rintro e w6 ⟨rfl,h6,k6⟩
     have H6:=hid (H5.out.word h6 k6)
     clear h6 k6
     rw [C2.out]
     go_wp2_with fail
     refine (zAn b B (optS [117,112,116,111] (pxS (chS [112,101,114,109,105,116] [100,101,110,121] p))) 0 32 _ H6.out.st).mono ?_
     rintro e w7 ⟨rfl,h7,k7⟩
     have H7:=hid (H6.out.word h7 k7)
     clear h7 k7
     obtain ⟨y4,c4⟩:=H7.out.cellx (j:=4) (show 4 < 5 from by decide)
     have fz:=H7.out.frz
     go_wp2_with fail
     clear c4 fz
     go_meet
     rw [EC.out]
     exact (H7.out.put 4 _ rfl)
    | false =>
     have C2:=hid c2
     clear c2
     go_wp2_with fail
     refine (zBj b B (pxS (chS [112,101,114,109,105,116] [100,101,110,121] p)) [117,112,116,111] _ H5.out.st).mono ?_
     rintro e w6 ⟨rfl,h6,k6⟩
     rw [zHg C2.out] at h6
     have H6:=hid (H5.out.word h6 k6)
     clear h6 k6
     rw [C2.out]
     cases c3:isW [114,97,110,103,101] (pxS (chS [112,101,114,109,105,116] [100,101,110,121] p)) with
     | true =>
      have C3:=hid c3
      clear c3
      have EC:Hid (zEv (pxV (chS [112,101,114,109,105,116] [100,101,110,121] p)).2 (pxS (chS [112,101,114,109,105,116] [100,101,110,121] p)) = (noV 0 32 (optS [114,97,110,103,101] (pxS (chS [112,101,114,109,105,116] [100,101,110,121] p))),noV 0 32 (noS 0 32 (optS [114,97,110,103,101] (pxS (chS [112,101,114,109,105,116] [100,101,110,121] p)))),noS 0 32 (noS 0 32 (optS [114,97,110,103,101] (pxS (chS [112,101,114,109,105,116] [100,101,110,121] p)))))):=hid (by unfold zEv; rw [C0.out,C1.out,C2.out,C3.out]; rfl)
      go_wp2_with fail
      refine (zBj b B (pxS (chS [112,101,114,109,105,116] [100,101,110,121] p)) [114,97,110,103,101] _ H6.out.st).mono ?_
      rintro e w7 ⟨rfl,h7,k7⟩
      have H7:=hid (H6.out.word h7 k7)
      clear h7 k7
      rw [C3.out]
      go_wp2_with fail
      refine (zAn b B (optS [114,97,110,103,101] (pxS (chS [112,101,114,109,105,116] [100,101,110,121] p))) 0 32 _ H7.out.st).mono ?_
      rintro e w8 ⟨rfl,h8,k8⟩
      have H8:=hid (H7.out.word h8 k8)
      clear h8 k8
      obtain ⟨y3,c3⟩:=H8.out.cellx (j:=3) (show 3 < 5 from by decide)
      have fz:=H8.out.frz
      go_wp2_with fail
      clear c3 fz
      refine (zAn b B (noS 0 32 (optS [114,97,110,103,101] (pxS (chS [112,101,114,109,105,116] [100,101,110,121] p)))) 0 32 _ (H8.out.put 3 _ rfl).st).mono ?_
      rintro e w9 ⟨rfl,h9,k9⟩
      have H9:=hid ((H8.out.put 3 _ rfl).word h9 k9)
      clear h9 k9
      obtain ⟨y4,c4⟩:=H9.out.cellx (j:=4) (show 4 < 5 from by decide)
      have fz:=H9.out.frz
      go_wp2_with fail
      clear c4 fz
      go_meet
      rw [EC.out]
      exact (H9.out.put 4 _ rfl)
     | false =>
      have C3:=hid c3
      clear c3
      go_wp2_with fail
      refine (zBj b B (pxS (chS [112,101,114,109,105,116] [100,101,110,121] p)) [114,97,110,103,101] _ H6.out.st).mono ?_
      rintro e w7 ⟨rfl,h7,k7⟩
      rw [zHg C3.out] at h7
      have H7:=hid (H6.out.word h7 k7)
      clear h7 k7
      rw [C3.out]
      have EC:Hid (zEv (pxV (chS [112,101,114,109,105,116] [100,101,110,121] p)).2 (pxS (chS [112,101,114,109,105,116] [100,101,110,121] p)) = ((pxV (chS [112,101,114,109,105,116] [100,101,110,121] p)).2,(pxV (chS [112,101,114,109,105,116] [100,101,110,121] p)).2,(pxS (chS [112,101,114,109,105,116] [100,101,110,121] p)))):=hid (by unfold zEv; rw [C0.out,C1.out,C2.out,C3.out]; rfl)
      go_wp2_with fail
      go_meet
      rw [EC.out]
      exact H7.out
 case rest =>
  have hpl:zEm r.plain p = ([],none,plF ⟨chB [112,101,114,109,105,116] [100,101,110,121] p,(pxV (chS [112,101,114,109,105,116] [100,101,110,121] p)).1,(pxV (chS [112,101,114,109,105,116] [100,101,110,121] p)).2,(zEv (pxV (chS [112,101,114,109,105,116] [100,101,110,121] p)).2 (pxS (chS [112,101,114,109,105,116] [100,101,110,121] p))).1,(zEv (pxV (chS [112,101,114,109,105,116] [100,101,110,121] p)).2 (pxS (chS [112,101,114,109,105,116] [100,101,110,121] p))).2.1⟩ r.plain,(zEv (pxV (chS [112,101,114,109,105,116] [100,101,110,121] p)).2 (pxS (chS [112,101,114,109,105,116] [100,101,110,121] p))).2.2):=rfl
  generalize zEv (pxV (chS [112,101,114,109,105,116] [100,101,110,121] p)).2 (pxS (chS [112,101,114,109,105,116] [100,101,110,121] p)) = bn at hcut hpl
  obtain ⟨mn,mx,p'⟩:=bn
  dsimp only at hcut hpl
  generalize (⟨chB [112,101,114,109,105,116] [100,101,110,121] p,(pxV (chS [112,101,114,109,105,116] [100,101,110,121] p)).1,(pxV (chS [112,101,114,109,105,116] [100,101,110,121] p)).2,mn,mx⟩:PRule) = y at hcut hpl
  have MX:=hid hcut
  have hbd:x.rules.length≤1000000000:=(by have h:=(rulesL HR.out (x:=x) (by rw [HL.out]; simp)).1; have:=HK.out; omega)
  clear hcut
  have MD:=hid MX.out.drew
  have hp:=zIh (btR_l HL.out)
  obtain ⟨ho,hne,hgB,cur,hpa⟩:=MD.out.bw.two (E:=136) (n:=5) (C:=PRule.C) (v:=x.v) (l:=x.rules) hp HV.out (fun _ => rfl)
  obtain ⟨A0,c0,hnv, -⟩:=ho.slv
  obtain ⟨A5,m5,c5,w5,hr,ho5,hg5,hn5⟩:=ho.push (P:=Tryz.prog) (Nat.le_trans MD.out.bw.bB MD.out.bw.size) kPRule.sl kPRule.info (by decide) (fun _ => rfl) y (PRule.one y) (by omega) (by decide) 79
  obtain ⟨c6,f6⟩:=zCf hg5 hne (hpa.cell (j:=1) (show 1 < 2 from by decide)) (hpa.frz _)
  have cr:wc.cell? ⟨gg,l0.length * 2 + 1,none⟩ = some (.slice A0 x.rules.length c0):=by rw [← hnv]; exact hpa.cell (j:=1) (show 1 < 2 from by decide)
  have cra:∀ o,(wc.alloc o).cell? ⟨gg,l0.length * 2 + 1,none⟩ = some (.slice A0 x.rules.length c0):=fun o => (World.cell?_alloc_lt wc o ⟨gg,l0.length * 2 + 1,none⟩ hpa.lt).trans cr
  have cx0:wc.cell? ⟨w2.heap.size,0,none⟩ = .some (.bool y.permit):=MX.out.cell 0
  have cx1:wc.cell? ⟨w2.heap.size,1,none⟩ = .some (.int .u32 (y.pa:Int)):=MX.out.cell 1
  have cx2:wc.cell? ⟨w2.heap.size,2,none⟩ = .some (.int .i64 y.pl):=MX.out.cell 2
  have cx3:wc.cell? ⟨w2.heap.size,3,none⟩ = .some (.int .i64 y.min):=MX.out.cell 3
  have cx4:wc.cell? ⟨w2.heap.size,4,none⟩ = .some (.int .i64 y.max):=MX.out.cell 4
  have hkq:=MX.out.bw.keep _ (List.mem_cons_of_mem _ HQ.out)
  have hrow:rP x ∈ btR r:=by rw [btR_l HL.out]; simp
  have ck:wc.cell? ⟨q,0,none⟩ = some (.pointer (some ⟨gg,l0.length * 2,none⟩)):=MX.out.bw.kc (List.mem_cons_of_mem _ HQ.out)
  have cka:∀ o,(wc.alloc o).cell? ⟨q,0,none⟩ = some (.pointer (some ⟨gg,l0.length * 2,none⟩)):=fun o => (World.cell?_alloc_lt wc o ⟨q,0,none⟩ (zAw hkq.1)).trans ck
  have ck5:w5.cell? ⟨q,0,none⟩ = some (.pointer (some ⟨gg,l0.length * 2,none⟩)):=(zCf hg5 (fun e => hkq.2.2 (List.mem_filterMap.2 ⟨rP x,hrow,e⟩)) (MD.out.bw.kc (List.mem_cons_of_mem _ HQ.out)) (Lib.frozen_of_heap hkq.1 0)).1
  have E:Hid (zEm r.plain p = ([],none,({ r with lists:=l0 ++ [⟨x.name,.slice A5 m5 c5,x.rules ++ [y]⟩] }:Rt).plain,p')):=hid (by rw [hpl]; unfold plF; simp only [Rt.plain,HL.out,List.map_append,List.map_cons,List.map_nil,zDc])
  have HB5:Hid (BW g B w0 { r with lists:=l0 ++ [⟨x.name,.slice A5 m5 c5,x.rules ++ [y]⟩] } K (187,kb) b p' (w5.setCell ⟨gg,l0.length * 2 + 1,none⟩ (.slice A5 m5 c5))):=hid ((MD.out.bw.inner (r' := { r with lists:=l0 ++ [⟨x.name,.slice A5 m5 c5,x.rules ++ [y]⟩] }) (m' := ⟨x.name,.slice A5 m5 c5,x.rules ++ [y]⟩) (v' := .slice A5 m5 c5) (l' := x.rules ++ [y]) (E:=136) (n:=5) (C:=PRule.C) (v:=x.v) (l:=x.rules) hp (zIh (t:=(btR r).take 11) (btR_l (r:={ r with lists:=l0 ++ [⟨x.name,.slice A5 m5 c5,x.rules ++ [y]⟩] }) (m0:=l0) (m:=⟨x.name,.slice A5 m5 c5,x.rules ++ [y]⟩) rfl)) HV.out (fun _ => rfl) rfl rfl ho5 hg5 hn5).less (fun _ hk => List.mem_cons_of_mem _ hk))
  rw [hnv] at hr
  have HR5:=hid hr
  clear hr ho5 hn5 hg5 ho hne hkq hrow hp hpa hpl hgB
  go_wp2_with fail
  go_region_law (refine zBi rfl _ _ 79 79 rfl (.slice A0 x.rules.length c0) (.slice (some ⟨wc.heap.size,0,none⟩) 1 1) (by simp [Act.eval]) (by simp [Act.eval]) HR5.out ?_)
  all_goals
   go_wp2_with fail
   go_ret2
   exact ⟨[],none,_,p', [],.nilFunc,E.out,rfl,HB5.out,fun _ => ⟨rfl,by rw [HL.out]; simp,rfl,rfl,rfl,rfl⟩,fun _ h => ElV.stay h rfl (by rw [HL.out]; simp) (fun _ h => h),rfl,fun _ h => by cases h⟩
theorem WSt.blk1 {T:TypeId × Bool} {b B:Nat} {p:Ps} {w:World} (h:WSt T b B p w):w.cell? ⟨b,1,none⟩ = some (.bool T.2):=by
 obtain ⟨-,v,hv, -⟩:=h; rw [Lib.cell_of_heap hv]; rfl
theorem zJk (n:Int) (w:World):Calls Tryz.prog 191 #[.int .i64 n] w fun e w' => e = .returned (.string (str (srcN n)))∧w = w' := by
 rcases (show n = 1∨n = 2∨n = 3∨n = 4∨(n≠1∧n≠2∧n≠3∧n≠4) from by omega) with rfl | rfl | rfl | rfl | ⟨h1,h2,h3,h4⟩
 rotate_left 4
 ·have d1:(n == 1) = false:=by simpa using h1
  have d2:(n == 2) = false:=by simpa using h2
  have d3:(n == 3) = false:=by simpa using h3
  have d4:(n == 4) = false:=by simpa using h4
  have E:Hid (srcN n = [112,97,116,104,45,118,101,99,116,111,114]):=hid (by unfold srcN; rw [if_neg h1,if_neg h2,if_neg h3,if_neg h4])
  clear h1 h2 h3 h4
  go_enter Tryz.func191,Tryz.ntmps191
  go_wp2_with fail
  go_ret
  exact ⟨by rw [E.out]; rfl,rfl⟩
 all_goals
  go_enter Tryz.func191,Tryz.ntmps191
  go_wp2_with fail
  go_ret
  exact ⟨rfl,rfl⟩
theorem str_imp (s:List UInt8):(⟨#[105,109,112,111,114,116,32]⟩:ByteArray) ++ str s = str (nmK [105,109,112,111,114,116] s):=by
 apply ByteArray.ext
 simp [str,nmK,ByteArray.data_append]
theorem imported_lsRed {g B b k:Nat} {w0 w:World} {r:Rt} {K:Kept} {kb:Bool} {p:Ps} (H:Hid (BW g B w0 r K (187,kb) b p w)) (HR:Hid (RtI k r.plain)) (HK:Hid (k≤1000000)) :
  Calls Tryz.prog 216 #[.pointer (some ⟨g,11,none⟩),.agg (Rd.C ⟨0,0,0,[],1⟩),.pointer (some ⟨b,0,none⟩)] w fun e w' => ∃ v K' iv,e = .returned (.tuple #[strV (nmK [105,109,112,111,114,116] (srcN (srcV p))),iv])∧BW g B w0 { r with lsRedV:=v,lsRed:=r.lsRed ++ [({ (⟨0,0,0,[],1⟩:Rd) with frm:=srcV p }:Rd)] } (K' ++ K) (187,kb) b (srcS p) w' ∧ (kb = false→iv = .nilFunc)∧(kb = true→RdV true v (r.lsRed ++ [({ (⟨0,0,0,[],1⟩:Rd) with frm:=srcV p }:Rd)]) K' iv)∧∀ k ∈ K', ∃ cs E,k.2 = .cells cs E (0,0):=by
 have hbd:r.lsRed.length≤1000000000:=(by have h:=HR.out.lsRed.1; replace h:r.lsRed.length≤k:=h; have:=HK.out; omega)
 have one:(Rd.C ({ (⟨0,0,0,[],1⟩:Rd) with frm:=srcV p }:Rd)).all (·.oneCell') = true:=by simp [Rd.C,strV,Value.oneCell']
 have hsn:=srcN_le (srcV p)
 have b1:¬ (9223372036854775807 < 7 + (str (srcN (srcV p))).size):=by rw [zAv]; omega
 have ret:∀ iv:Value,Ending.returned (.tuple #[.string ((⟨#[105,109,112,111,114,116,32]⟩:ByteArray) ++ str (srcN (srcV p))),iv]) = .returned (.tuple #[strV (nmK [105,109,112,111,114,116] (srcN (srcV p))),iv]):=fun iv => by rw [str_imp]; rfl
 have X0:=hid (BX.new H.out 230 (Rd.C ⟨0,0,0,[],1⟩))
 go_enter Tryz.func216,Tryz.ntmps216
 go_upto_region 1 with (fail)
 change Code.wp _ _ _ _ (w.alloc (.cells (Rd.C ⟨0,0,0,[],1⟩) 230))
 generalize w.alloc (.cells (Rd.C ⟨0,0,0,[],1⟩) 230) = wA at X0 ⊢
 go_wp2_with fail
 refine (zKh b B p _ X0.out.st).mono ?_
 rintro e w1 ⟨rfl,h1,k1⟩
 have H1:=hid (X0.out.word h1 k1)
 clear h1 k1
 obtain ⟨y0,c0⟩:=H1.out.cellx (j:=0) (show 0 < 5 from by decide)
 have fz:=H1.out.frz
 have X2:Hid (BX g B w0 r K (187,kb) b (srcS p) w.heap.size 230 (Rd.C ({ (⟨0,0,0,[],1⟩:Rd) with frm:=srcV p }:Rd)) (w1.setCell ⟨w.heap.size,0,none⟩ (.int .i64 (srcV p)))):=hid (H1.out.put 0 _ rfl)
 go_upto_region 2 with (fail)
 clear c0 fz
 generalize w1.setCell ⟨w.heap.size,0,none⟩ (.int .i64 (srcV p)) = w2 at X2 ⊢
 have RG:=hid X2.out.has.range
 go_wp2_with (refine zAa rfl 230 _ rfl rfl RG.out Tryz.rowRd Tryz.sizeRd ?_)
 refine (add_lsRed X2.out.bw ({ (⟨0,0,0,[],1⟩:Rd) with frm:=srcV p }:Rd) one hbd).mono ?_
 rintro e w3 ⟨gg,cap,cur,rfl,h3, -⟩
 have H3:=hid h3
 clear h3
 have hq:HasC 230 w.heap.size (Rd.C ({ (⟨0,0,0,[],1⟩:Rd) with frm:=srcV p }:Rd)) w3:=(H3.out.keep _ List.mem_cons_self).1
 have q0:w3.cell? ⟨w.heap.size,0,none⟩ = .some (.int .i64 (srcV p)):=hq.cell 0
 have q4:w3.cell? ⟨w.heap.size,4,none⟩ = .some (.int .i64 1):=hq.cell 4
 have qb:w3.cell? ⟨b,1,none⟩ = .some (.bool kb):=H3.out.st.blk1
 clear hq
 go_wp2_with fail
 refine (zJk (srcV p) w3).mono ?_
 rintro e w4 ⟨rfl,rfl⟩
 cases kb with
 | false =>
  go_wp2_with fail
  go_ret2
  exact ⟨_,[],.nilFunc,ret _,H3.out.less (fun _ hk => List.mem_cons_of_mem _ hk),rfl,fun _ _ h => by cases h⟩
 | true =>
  go_wp2_with fail
  refine (zFl _ _ _).mono ?_
  rintro e w5 ⟨rfl,rfl⟩
  go_wp2_with fail
  go_ret2
  exact ⟨_,[((w3.alloc (.cells #[.pointer (some ⟨gg,r.lsRed.length * 5,none⟩)] 301)).heap.size,.cells #[.bool true] 4 (0,0)),(w3.heap.size,.cells #[.pointer (some ⟨gg,r.lsRed.length * 5,none⟩)] 301 (0,0))],_,ret _,(((H3.out.less (K' := K) (fun _ hk => List.mem_cons_of_mem _ hk)).box (.cells #[.pointer (some ⟨gg,r.lsRed.length * 5,none⟩)] 301)).box (.cells #[.bool true] 4)),
   ⟨gg,cap,r.lsRed,_,_,_,rfl,rfl,rfl,by simp,by simp⟩,fun k o hk => by
    simp only [List.mem_cons,List.not_mem_nil,or_false,Prod.mk.injEq] at hk
    rcases hk with ⟨rfl,rfl⟩ | ⟨rfl,rfl⟩ <;> exact ⟨_,_,rfl⟩⟩
theorem imported_dvRed {g B b k:Nat} {w0 w:World} {r:Rt} {K:Kept} {kb:Bool} {p:Ps} (H:Hid (BW g B w0 r K (187,kb) b p w)) (HR:Hid (RtI k r.plain)) (HK:Hid (k≤1000000)) :
  Calls Tryz.prog 216 #[.pointer (some ⟨g,16,none⟩),.agg (Rd.C ⟨0,1,0,[],0⟩),.pointer (some ⟨b,0,none⟩)] w fun e w' => ∃ v K' iv,e = .returned (.tuple #[strV (nmK [105,109,112,111,114,116] (srcN (srcV p))),iv])∧BW g B w0 { r with dvRedV:=v,dvRed:=r.dvRed ++ [({ (⟨0,1,0,[],0⟩:Rd) with frm:=srcV p }:Rd)] } (K' ++ K) (187,kb) b (srcS p) w' ∧ (kb = false→iv = .nilFunc)∧(kb = true→RdV false v (r.dvRed ++ [({ (⟨0,1,0,[],0⟩:Rd) with frm:=srcV p }:Rd)]) K' iv)∧∀ k ∈ K', ∃ cs E,k.2 = .cells cs E (0,0):=by
 have hbd:r.dvRed.length≤1000000000:=(by have h:=HR.out.dvRed.1; replace h:r.dvRed.length≤k:=h; have:=HK.out; omega)
 have one:(Rd.C ({ (⟨0,1,0,[],0⟩:Rd) with frm:=srcV p }:Rd)).all (·.oneCell') = true:=by simp [Rd.C,strV,Value.oneCell']
 have hsn:=srcN_le (srcV p)
 have b1:¬ (9223372036854775807 < 7 + (str (srcN (srcV p))).size):=by rw [zAv]; omega
 have ret:∀ iv:Value,Ending.returned (.tuple #[.string ((⟨#[105,109,112,111,114,116,32]⟩:ByteArray) ++ str (srcN (srcV p))),iv]) = .returned (.tuple #[strV (nmK [105,109,112,111,114,116] (srcN (srcV p))),iv]):=fun iv => by rw [str_imp]; rfl
 have X0:=hid (BX.new H.out 230 (Rd.C ⟨0,1,0,[],0⟩))
 go_enter Tryz.func216,Tryz.ntmps216
 go_upto_region 1 with (fail)
 change Code.wp _ _ _ _ (w.alloc (.cells (Rd.C ⟨0,1,0,[],0⟩) 230))
 generalize w.alloc (.cells (Rd.C ⟨0,1,0,[],0⟩) 230) = wA at X0 ⊢
 go_wp2_with fail
 refine (zKh b B p _ X0.out.st).mono ?_
 rintro e w1 ⟨rfl,h1,k1⟩
 have H1:=hid (X0.out.word h1 k1)
 clear h1 k1
 obtain ⟨y0,c0⟩:=H1.out.cellx (j:=0) (show 0 < 5 from by decide)
 have fz:=H1.out.frz
 have X2:Hid (BX g B w0 r K (187,kb) b (srcS p) w.heap.size 230 (Rd.C ({ (⟨0,1,0,[],0⟩:Rd) with frm:=srcV p }:Rd)) (w1.setCell ⟨w.heap.size,0,none⟩ (.int .i64 (srcV p)))):=hid (H1.out.put 0 _ rfl)
 go_upto_region 2 with (fail)
 clear c0 fz
 generalize w1.setCell ⟨w.heap.size,0,none⟩ (.int .i64 (srcV p)) = w2 at X2 ⊢
 have RG:=hid X2.out.has.range
 go_wp2_with (refine zAa rfl 230 _ rfl rfl RG.out Tryz.rowRd Tryz.sizeRd ?_)
 refine (add_dvRed X2.out.bw ({ (⟨0,1,0,[],0⟩:Rd) with frm:=srcV p }:Rd) one hbd).mono ?_
 rintro e w3 ⟨gg,cap,cur,rfl,h3, -⟩
 have H3:=hid h3
 clear h3
 have hq:HasC 230 w.heap.size (Rd.C ({ (⟨0,1,0,[],0⟩:Rd) with frm:=srcV p }:Rd)) w3:=(H3.out.keep _ List.mem_cons_self).1
 have q0:w3.cell? ⟨w.heap.size,0,none⟩ = .some (.int .i64 (srcV p)):=hq.cell 0
 have q4:w3.cell? ⟨w.heap.size,4,none⟩ = .some (.int .i64 0):=hq.cell 4
 have qb:w3.cell? ⟨b,1,none⟩ = .some (.bool kb):=H3.out.st.blk1
 clear hq
 go_wp2_with fail
 refine (zJk (srcV p) w3).mono ?_
 rintro e w4 ⟨rfl,rfl⟩
 cases kb with
 | false =>
  go_wp2_with fail
  go_ret2
  exact ⟨_,[],.nilFunc,ret _,H3.out.less (fun _ hk => List.mem_cons_of_mem _ hk),rfl,fun _ _ h => by cases h⟩
 | true =>
  go_wp2_with fail
  refine (zFl _ _ _).mono ?_
  rintro e w5 ⟨rfl,rfl⟩
  go_wp2_with fail
  go_ret2
  exact ⟨_,[((w3.alloc (.cells #[.pointer (some ⟨gg,r.dvRed.length * 5,none⟩)] 301)).heap.size,.cells #[.bool false] 4 (0,0)),(w3.heap.size,.cells #[.pointer (some ⟨gg,r.dvRed.length * 5,none⟩)] 301 (0,0))],_,ret _,(((H3.out.less (K' := K) (fun _ hk => List.mem_cons_of_mem _ hk)).box (.cells #[.pointer (some ⟨gg,r.dvRed.length * 5,none⟩)] 301)).box (.cells #[.bool false] 4)),
   ⟨gg,cap,r.dvRed,_,_,_,rfl,rfl,rfl,by simp,by simp⟩,fun k o hk => by
    simp only [List.mem_cons,List.not_mem_nil,or_false,Prod.mk.injEq] at hk
    rcases hk with ⟨rfl,rfl⟩ | ⟨rfl,rfl⟩ <;> exact ⟨_,_,rfl⟩⟩
theorem imported_pvRed {g B b k:Nat} {w0 w:World} {r:Rt} {K:Kept} {kb:Bool} {p:Ps} (H:Hid (BW g B w0 r K (187,kb) b p w)) (HR:Hid (RtI k r.plain)) (HK:Hid (k≤1000000)) :
  Calls Tryz.prog 216 #[.pointer (some ⟨g,24,none⟩),.agg (Rd.C ⟨0,0,0,[],0⟩),.pointer (some ⟨b,0,none⟩)] w fun e w' => ∃ v K' iv,e = .returned (.tuple #[strV (nmK [105,109,112,111,114,116] (srcN (srcV p))),iv])∧BW g B w0 { r with pvRedV:=v,pvRed:=r.pvRed ++ [({ (⟨0,0,0,[],0⟩:Rd) with frm:=srcV p }:Rd)] } (K' ++ K) (187,kb) b (srcS p) w' ∧ (kb = false→iv = .nilFunc)∧(kb = true→RdV false v (r.pvRed ++ [({ (⟨0,0,0,[],0⟩:Rd) with frm:=srcV p }:Rd)]) K' iv)∧∀ k ∈ K', ∃ cs E,k.2 = .cells cs E (0,0):=by
 have hbd:r.pvRed.length≤1000000000:=(by have h:=HR.out.pvRed.1; replace h:r.pvRed.length≤k:=h; have:=HK.out; omega)
 have one:(Rd.C ({ (⟨0,0,0,[],0⟩:Rd) with frm:=srcV p }:Rd)).all (·.oneCell') = true:=by simp [Rd.C,strV,Value.oneCell']
 have hsn:=srcN_le (srcV p)
 have b1:¬ (9223372036854775807 < 7 + (str (srcN (srcV p))).size):=by rw [zAv]; omega
 have ret:∀ iv:Value,Ending.returned (.tuple #[.string ((⟨#[105,109,112,111,114,116,32]⟩:ByteArray) ++ str (srcN (srcV p))),iv]) = .returned (.tuple #[strV (nmK [105,109,112,111,114,116] (srcN (srcV p))),iv]):=fun iv => by rw [str_imp]; rfl
 have X0:=hid (BX.new H.out 230 (Rd.C ⟨0,0,0,[],0⟩))
 go_enter Tryz.func216,Tryz.ntmps216
 go_upto_region 1 with (fail)
 change Code.wp _ _ _ _ (w.alloc (.cells (Rd.C ⟨0,0,0,[],0⟩) 230))
 generalize w.alloc (.cells (Rd.C ⟨0,0,0,[],0⟩) 230) = wA at X0 ⊢
 go_wp2_with fail
 refine (zKh b B p _ X0.out.st).mono ?_
 rintro e w1 ⟨rfl,h1,k1⟩
 have H1:=hid (X0.out.word h1 k1)
 clear h1 k1
 obtain ⟨y0,c0⟩:=H1.out.cellx (j:=0) (show 0 < 5 from by decide)
 have fz:=H1.out.frz
 have X2:Hid (BX g B w0 r K (187,kb) b (srcS p) w.heap.size 230 (Rd.C ({ (⟨0,0,0,[],0⟩:Rd) with frm:=srcV p }:Rd)) (w1.setCell ⟨w.heap.size,0,none⟩ (.int .i64 (srcV p)))):=hid (H1.out.put 0 _ rfl)
 go_upto_region 2 with (fail)
 clear c0 fz
 generalize w1.setCell ⟨w.heap.size,0,none⟩ (.int .i64 (srcV p)) = w2 at X2 ⊢
 have RG:=hid X2.out.has.range
 go_wp2_with (refine zAa rfl 230 _ rfl rfl RG.out Tryz.rowRd Tryz.sizeRd ?_)
 refine (add_pvRed X2.out.bw ({ (⟨0,0,0,[],0⟩:Rd) with frm:=srcV p }:Rd) one hbd).mono ?_
 rintro e w3 ⟨gg,cap,cur,rfl,h3, -⟩
 have H3:=hid h3
 clear h3
 have hq:HasC 230 w.heap.size (Rd.C ({ (⟨0,0,0,[],0⟩:Rd) with frm:=srcV p }:Rd)) w3:=(H3.out.keep _ List.mem_cons_self).1
 have q0:w3.cell? ⟨w.heap.size,0,none⟩ = .some (.int .i64 (srcV p)):=hq.cell 0
 have q4:w3.cell? ⟨w.heap.size,4,none⟩ = .some (.int .i64 0):=hq.cell 4
 have qb:w3.cell? ⟨b,1,none⟩ = .some (.bool kb):=H3.out.st.blk1
 clear hq
 go_wp2_with fail
 refine (zJk (srcV p) w3).mono ?_
 rintro e w4 ⟨rfl,rfl⟩
 cases kb with
 | false =>
  go_wp2_with fail
  go_ret2
  exact ⟨_,[],.nilFunc,ret _,H3.out.less (fun _ hk => List.mem_cons_of_mem _ hk),rfl,fun _ _ h => by cases h⟩
 | true =>
  go_wp2_with fail
  refine (zFl _ _ _).mono ?_
  rintro e w5 ⟨rfl,rfl⟩
  go_wp2_with fail
  go_ret2
  exact ⟨_,[((w3.alloc (.cells #[.pointer (some ⟨gg,r.pvRed.length * 5,none⟩)] 301)).heap.size,.cells #[.bool false] 4 (0,0)),(w3.heap.size,.cells #[.pointer (some ⟨gg,r.pvRed.length * 5,none⟩)] 301 (0,0))],_,ret _,(((H3.out.less (K' := K) (fun _ hk => List.mem_cons_of_mem _ hk)).box (.cells #[.pointer (some ⟨gg,r.pvRed.length * 5,none⟩)] 301)).box (.cells #[.bool false] 4)),
   ⟨gg,cap,r.pvRed,_,_,_,rfl,rfl,rfl,by simp,by simp⟩,fun k o hk => by
    simp only [List.mem_cons,List.not_mem_nil,or_false,Prod.mk.injEq] at hk
    rcases hk with ⟨rfl,rfl⟩ | ⟨rfl,rfl⟩ <;> exact ⟨_,_,rfl⟩⟩
end Go.Proofs.YtdlgnhefpoalnaaGreatDoor
