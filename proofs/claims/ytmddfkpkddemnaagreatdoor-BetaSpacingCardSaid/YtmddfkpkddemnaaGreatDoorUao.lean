/- The walks of beta's forms that turn the router: the reader's methods, the closures over one pointer. Conditions: no word is longer than 10^9 bytes; Go's own tables lie below (EnvA); the router is within bounds (RtI). -/
import Derived.Test.YtmddfkpkddemnaaGreatDoorUaa
import Derived.Test.YtmddfkpkddemnaaGreatDoorUad
import Derived.Test.YtmddfkpkddemnaaGreatDoorUab
namespace Go.Proofs.YtmddfkpkddemnaaGreatDoor
open Go.RowKit
/-- A closure over a pointer that has been boxed. -/
def NewP (F : Nat) (U : TypeId) (x : Addr) (w : World) (e : Ending) (w' : World) : Prop :=
  e = .returned (.func (.func F) #[] #[.pointer (some ⟨w.heap.size, 0, none⟩)]) ∧ w' = w.alloc (.cells #[.pointer (some x)] U)
theorem new_prefixRules (x : Addr) (w : World) : Calls Tryz.prog 78 #[.pointer (some x)] w (NewP 123 150 x w) := by
  have hmf : ∀ (fn : Fn) (first cap : Array Value) (w : World), (Instr.makeFunc fn first cap).run Tryz.prog w = .ok (.func fn first cap) w := fun _ _ _ _ => rfl
  go_enter Tryz.func78, Tryz.ntmps78
  go_wp2_with fail
  go_ret
  exact ⟨rfl, rfl⟩
theorem new_clauses (x : Addr) (w : World) : Calls Tryz.prog 80 #[.pointer (some x)] w (NewP 127 154 x w) := by
  have hmf : ∀ (fn : Fn) (first cap : Array Value) (w : World), (Instr.makeFunc fn first cap).run Tryz.prog w = .ok (.func fn first cap) w := fun _ _ _ _ => rfl
  go_enter Tryz.func80, Tryz.ntmps80
  go_wp2_with fail
  go_ret
  exact ⟨rfl, rfl⟩
theorem new_clause (x : Addr) (w : World) : Calls Tryz.prog 128 #[.pointer (some x)] w (NewP 173 178 x w) := by
  have hmf : ∀ (fn : Fn) (first cap : Array Value) (w : World), (Instr.makeFunc fn first cap).run Tryz.prog w = .ok (.func fn first cap) w := fun _ _ _ _ => rfl
  go_enter Tryz.func128, Tryz.ntmps128
  go_wp2_with fail
  go_ret
  exact ⟨rfl, rfl⟩
theorem new_rules (x : Addr) (w : World) : Calls Tryz.prog 82 #[.pointer (some x)] w (NewP 130 158 x w) := by
  have hmf : ∀ (fn : Fn) (first cap : Array Value) (w : World), (Instr.makeFunc fn first cap).run Tryz.prog w = .ok (.func fn first cap) w := fun _ _ _ _ => rfl
  go_enter Tryz.func82, Tryz.ntmps82
  go_wp2_with fail
  go_ret
  exact ⟨rfl, rfl⟩
theorem new_rule (x : Addr) (w : World) : Calls Tryz.prog 132 #[.pointer (some x)] w (NewP 175 180 x w) := by
  have hmf : ∀ (fn : Fn) (first cap : Array Value) (w : World), (Instr.makeFunc fn first cap).run Tryz.prog w = .ok (.func fn first cap) w := fun _ _ _ _ => rfl
  go_enter Tryz.func132, Tryz.ntmps132
  go_wp2_with fail
  go_ret
  exact ⟨rfl, rfl⟩
theorem new_iface (x : Addr) (w : World) : Calls Tryz.prog 121 #[.pointer (some x)] w (NewP 170 173 x w) := by
  have hmf : ∀ (fn : Fn) (first cap : Array Value) (w : World), (Instr.makeFunc fn first cap).run Tryz.prog w = .ok (.func fn first cap) w := fun _ _ _ _ => rfl
  go_enter Tryz.func121, Tryz.ntmps121
  go_wp2_with fail
  go_ret
  exact ⟨rfl, rfl⟩
theorem new_static (x : Addr) (w : World) : Calls Tryz.prog 135 #[.pointer (some x)] w (NewP 180 189 x w) := by
  have hmf : ∀ (fn : Fn) (first cap : Array Value) (w : World), (Instr.makeFunc fn first cap).run Tryz.prog w = .ok (.func fn first cap) w := fun _ _ _ _ => rfl
  go_enter Tryz.func135, Tryz.ntmps135
  go_wp2_with fail
  go_ret
  exact ⟨rfl, rfl⟩
theorem new_linkState (x : Addr) (w : World) : Calls Tryz.prog 85 #[.pointer (some x)] w (NewP 137 163 x w) := by
  have hmf : ∀ (fn : Fn) (first cap : Array Value) (w : World), (Instr.makeFunc fn first cap).run Tryz.prog w = .ok (.func fn first cap) w := fun _ _ _ _ => rfl
  go_enter Tryz.func85, Tryz.ntmps85
  go_wp2_with fail
  go_ret
  exact ⟨rfl, rfl⟩
theorem new_distanceVector (x : Addr) (w : World) : Calls Tryz.prog 86 #[.pointer (some x)] w (NewP 139 165 x w) := by
  have hmf : ∀ (fn : Fn) (first cap : Array Value) (w : World), (Instr.makeFunc fn first cap).run Tryz.prog w = .ok (.func fn first cap) w := fun _ _ _ _ => rfl
  go_enter Tryz.func86, Tryz.ntmps86
  go_wp2_with fail
  go_ret
  exact ⟨rfl, rfl⟩
theorem new_pathVector (x : Addr) (w : World) : Calls Tryz.prog 87 #[.pointer (some x)] w (NewP 140 167 x w) := by
  have hmf : ∀ (fn : Fn) (first cap : Array Value) (w : World), (Instr.makeFunc fn first cap).run Tryz.prog w = .ok (.func fn first cap) w := fun _ _ _ _ => rfl
  go_enter Tryz.func87, Tryz.ntmps87
  go_wp2_with fail
  go_ret
  exact ⟨rfl, rfl⟩
theorem new_neighbor (x : Addr) (w : World) : Calls Tryz.prog 143 #[.pointer (some x)] w (NewP 186 219 x w) := by
  have hmf : ∀ (fn : Fn) (first cap : Array Value) (w : World), (Instr.makeFunc fn first cap).run Tryz.prog w = .ok (.func fn first cap) w := fun _ _ _ _ => rfl
  go_enter Tryz.func143, Tryz.ntmps143
  go_wp2_with fail
  go_ret
  exact ⟨rfl, rfl⟩
theorem new_redistribution (x : Addr) (typed : Bool) (w : World) : Calls Tryz.prog 184 #[.pointer (some x), .bool typed] w fun e w' =>
    e = .returned (.func (.func 204) #[] #[.pointer (some ⟨w.heap.size, 0, none⟩), .pointer (some ⟨w.heap.size + 1, 0, none⟩)]) ∧ w' = (w.alloc (.cells #[.pointer (some x)] 247)).alloc (.cells #[.bool typed] 4) := by
  have hmf : ∀ (fn : Fn) (first cap : Array Value) (w : World), (Instr.makeFunc fn first cap).run Tryz.prog w = .ok (.func fn first cap) w := fun _ _ _ _ => rfl
  go_enter Tryz.func184, Tryz.ntmps184
  go_wp2_with fail
  go_ret
  exact ⟨by simp, rfl⟩
section
variable {α β : Type} {E E' : TypeId} {n g B b j gg cap : Nat} {C : α → Array Value} {D : β → Array Value} {v V pv : Value} {l : List α} {l0 : List β} {m : β} {x : α} {K : Kept} {w0 w w' : World} {r : Rt} {R : Value → Rt} {T : TypeId × Bool} {p : Ps} {post ex : List Orow} {e : Ending}
/-- add, at a slice of the reader's struct. -/
theorem BW.added (h : BW g B w0 r K T b p w) (hp : (btR r).Perm (rowE E n C v l :: post)) (ha : AddP E n C g j B v l x w e w') (hp' : ∀ v', (btR (R v')).Perm (rowE E n C v' (l ++ [x]) :: (ex ++ post))) (hx : ∀ o ∈ ex, o.v.ownBlock = none ∧ ∀ w, o.own w B)
    (hn : 0 < n) (hC : ∀ x, (C x).toList.length = n) (ec : ∀ v', r.C.setIfInBounds j v' = (R v').C) :
    ∃ gg cap cur, e = .returned (.pointer (some ⟨gg, l.length * n, none⟩)) ∧ BW g B w0 (R (.slice (some ⟨gg, 0, none⟩) (l.length + 1) cap)) K T b p w' ∧ Part E gg (l.length * n) cur (C x) w' := by
  obtain ⟨w1, gg, cap, rfl, ho, hg, hb, rfl⟩ := ha
  have h' := h.grow (r' := R (.slice (some ⟨gg, 0, none⟩) (l.length + 1) cap)) (ex := ex) hp (hp' _) hx ho hg (by
    rcases hb with hb | hb
    · exact .inl hb.symm
    · exact .inr (.inr ⟨gg, rfl, hb⟩)) (ec _)
  have hall := h'.own.perm (hp' (.slice (some ⟨gg, 0, none⟩) (l.length + 1) cap)).symm
  have ho' : OwnE _ B E n C (.slice (some ⟨gg, 0, none⟩) (l.length + 1) cap) (l ++ [x]) := hall.1 (rowE E n C _ (l ++ [x])) (by simp)
  obtain ⟨g', cap', cur, e1, -, hpa, -⟩ := ho'.part hn hC (k := l.length) (by simp)
  injection e1 with e1 _ e3
  injection e1 with e1
  injection e1 with e1 _ _
  subst e1
  rw [show (l ++ [x])[l.length]'(by simp) = x from by simp] at hpa
  exact ⟨gg, cap, cur, rfl, h', hpa⟩
/-- add, at the slice of the last list of lists. -/
theorem BW.addedI {M : Value → β} (h : BW g B w0 r K T b p w) (hp : (btR r).Perm (rowE E' 2 D V (l0 ++ [m]) :: rowE E n C v l :: post)) (ha : AddP E n C gg (l0.length * 2 + 1) B v l x w e w')
    (hp' : ∀ v', (btR (R v')).Perm (rowE E' 2 D V (l0 ++ [M v']) :: rowE E n C v' (l ++ [x]) :: post)) (hV : V = .slice (some ⟨gg, 0, none⟩) (l0.length + 1) cap) (hD : ∀ x, (D x).toList.length = 2) (hm : ∀ v', (D m).setIfInBounds 1 v' = D (M v')) (ec : ∀ v', (R v').C = r.C) :
    ∃ g2 cap2, e = .returned (.pointer (some ⟨g2, l.length * n, none⟩)) ∧ BW g B w0 (R (.slice (some ⟨g2, 0, none⟩) (l.length + 1) cap2)) K T b p w' := by
  obtain ⟨w1, g2, cap2, rfl, ho, hg, hb, rfl⟩ := ha
  exact ⟨g2, cap2, rfl, h.inner (r' := R (.slice (some ⟨g2, 0, none⟩) (l.length + 1) cap2)) hp (hp' _) hV hD (hm _) (ec _) ho hg (by
    rcases hb with hb | hb
    · exact .inl hb.symm
    · exact .inr (.inr ⟨g2, rfl, hb⟩))⟩
end
end Go.Proofs.YtmddfkpkddemnaaGreatDoor
namespace Go.Proofs.YtmddfkpkddemnaaGreatDoor
open Go.RowKit
theorem BR.cellx {g B : Nat} {w0 w : World} {r : Rt} {K : Kept} (h : BR g B w0 r K w) (j : Nat) (hj : j < 25) : ∃ y, w.cell? ⟨g, j, none⟩ = some y := by
  have hs : r.C.size = 25 := rfl
  exact ⟨r.C[j]'(by omega), by rw [h.cell, Array.getElem?_eq_getElem]⟩
theorem BW.drew {g B b : Nat} {w0 w : World} {r : Rt} {K : Kept} {T : TypeId × Bool} {p : Ps} (h : BW g B w0 r K T b p w) : BW g B w0 r K T b p w.drew := h.on ⟨rfl, rfl, rfl, Nat.le_refl _, fun _ _ => rfl⟩
/-- A kept block of one cell. -/
theorem BW.kc {g B b k : Nat} {w0 w : World} {r : Rt} {K : Kept} {T : TypeId × Bool} {p : Ps} {v : Value} {U : TypeId} (h : BW g B w0 r K T b p w) (hk : (k, .cells #[v] U (0, 0)) ∈ K) : w.cell? ⟨k, 0, none⟩ = some v := by
  rw [Lib.cell_of_heap (h.keep _ hk).1]; rfl
/-- The reader, the words p of a node in block b, the local struct cs in block q. -/
structure BX (g B : Nat) (w0 : World) (r : Rt) (K : Kept) (T : TypeId × Bool) (b : Nat) (p : Ps) (q : Nat) (E : TypeId) (cs : Array Value) (w : World) : Prop where
  bw : BW g B w0 r ((q, .cells cs E (0, 0)) :: K) T b p w
  ne : ∀ k ∈ K, k.1 ≠ q
  qB : B ≤ q
section
variable {g B b q : Nat} {w0 w w' : World} {r : Rt} {K : Kept} {T : TypeId × Bool} {p p' : Ps} {E : TypeId} {cs cs' : Array Value}
theorem BX.new (h : BW g B w0 r K T b p w) (E : TypeId) (cs : Array Value) : BX g B w0 r K T b p w.heap.size E cs (w.alloc (.cells cs E)) :=
  ⟨h.box _, fun k hk => Nat.ne_of_lt (blk_lt (h.keep k hk).1), Nat.le_trans h.bB h.size⟩
theorem BX.newc (h : BW g B w0 r K T b p w) (hz : HasC E w.heap.size cs w') (hb : Below w.heap.size w w') : BX g B w0 r K T b p w.heap.size E cs w' := by
  have h1 := h.on hb
  refine ⟨⟨⟨h1.has, h1.own, h1.bel, h1.bB, h1.gB, h1.gr, fun k hk => ?_⟩, h1.st, h1.gb, h1.br, fun k hk => ?_⟩, fun k hk => Nat.ne_of_lt (blk_lt (h.keep k hk).1), Nat.le_trans h.bB h.size⟩
  · rcases List.mem_cons.1 hk with rfl | hk
    · exact ⟨hz, Nat.ne_of_gt h.lt, fun hm => Nat.lt_irrefl _ (h.blt hm).1⟩
    · exact h1.keep k hk
  · rcases List.mem_cons.1 hk with rfl | hk
    · exact Nat.ne_of_gt h.st.lt
    · exact h1.kb k hk
theorem BX.has (h : BX g B w0 r K T b p q E cs w) : HasC E q cs w := (h.bw.keep _ List.mem_cons_self).1
theorem BX.st (h : BX g B w0 r K T b p q E cs w) : WSt T b B p w := h.bw.st
theorem BX.drew (h : BX g B w0 r K T b p q E cs w) : BX g B w0 r K T b p q E cs w.drew := ⟨h.bw.drew, h.ne, h.qB⟩
theorem BX.word (h : BX g B w0 r K T b p q E cs w) (hs : WSt T b B p' w') (hg : w.grownBy w' (some b)) : BX g B w0 r K T b p' q E cs w' := ⟨h.bw.word hs hg, h.ne, h.qB⟩
theorem BX.bad (h : BX g B w0 r K T b p q E cs w) : BX g B w0 r K T b p.fail q E cs (w.setCell ⟨b, 2, none⟩ (.bool true)) := ⟨h.bw.bad, h.ne, h.qB⟩
theorem BX.cell (h : BX g B w0 r K T b p q E cs w) (j : Nat) : w.cell? ⟨q, j, none⟩ = cs[j]? := h.has.cell j
theorem BX.cellx (h : BX g B w0 r K T b p q E cs w) {j : Nat} (hj : j < cs.size) : ∃ y, w.cell? ⟨q, j, none⟩ = some y := ⟨cs[j], by rw [h.cell, Array.getElem?_eq_getElem hj]⟩
theorem BX.frz (h : BX g B w0 r K T b p q E cs w) (j : Nat) : w.frozen? ⟨q, j, none⟩ = false := h.has.frz j
theorem BX.env (h : BX g B w0 r K T b p q E cs w) (he : EnvA B w0) : EnvA B w := h.bw.toBR.env he
/-- A cell of the local struct. -/
theorem BX.put (h : BX g B w0 r K T b p q E cs w) (j : Nat) (v : Value) (e : cs.setIfInBounds j v = cs') : BX g B w0 r K T b p q E cs' (w.setCell ⟨q, j, none⟩ v) := by
  obtain ⟨h, hne, hq⟩ := h
  obtain ⟨k1, k2, k3⟩ := h.keep _ List.mem_cons_self
  have hqb := h.kb _ List.mem_cons_self
  dsimp only at k1 k2 k3 hqb
  have hg := grown_set w q j v
  refine ⟨⟨⟨h.has.grown hg (fun e => k2 (by injection e with e; exact e.symm)), h.own.frame hg (fun g e => by injection e with e; subst e; exact k3), h.bel.trans (below_of_grown hg hq (Nat.le_trans h.bB h.size)), h.bB, h.gB, h.gr, fun k hk => ?_⟩, h.st.other hg (fun k hk => by cases hk; exact ⟨hq, hqb⟩), h.gb, h.br, fun k hk => ?_⟩, hne, hq⟩
  · rcases List.mem_cons.1 hk with rfl | hk
    · exact ⟨by rw [← e]; exact Lib.heap_setCell_same (i := j) k1 v, k2, k3⟩
    · obtain ⟨h1, h2, h3⟩ := h.keep k (List.mem_cons_of_mem _ hk)
      exact ⟨(hg.block k.1 (blk_lt h1) (fun e => hne k hk (by injection e))).trans h1, h2, h3⟩
  · rcases List.mem_cons.1 hk with rfl | hk
    · exact hqb
    · exact h.kb k (List.mem_cons_of_mem _ hk)
end
end Go.Proofs.YtmddfkpkddemnaaGreatDoor
namespace Go.Proofs.YtmddfkpkddemnaaGreatDoor
open Go.RowKit
theorem permAt {rs t z : List Orow} {o : Orow} (h : rs = t ++ o :: z) : rs.Perm (o :: (t ++ z)) := (List.Perm.of_eq h).trans List.perm_middle
theorem permTwo {rs t u z : List Orow} {o y : Orow} (h : rs = t ++ o :: (u ++ y :: z)) : rs.Perm (o :: y :: (t ++ (u ++ z))) := by
  refine (List.Perm.of_eq h).trans (List.perm_middle.trans (List.Perm.cons _ ?_))
  rw [← List.append_assoc t u (y :: z), ← List.append_assoc t u z]
  exact List.perm_middle
section
variable {r : Rt}
theorem btR_l {m0 : List PList} {m : PList} (e : r.lists = m0 ++ [m]) : btR r = (btR r).take 11 ++ rowE 103 2 PList.C r.listsV (m0 ++ [m]) :: ((rowE 108 2 RMap.C r.mapsV r.maps :: rowE 113 2 AList.C r.aclsV r.acls :: m0.map rP) ++ rP m :: (r.maps.map rM ++ r.acls.map rA)) := by
  show (btR r).take 11 ++ rowE 103 2 PList.C r.listsV r.lists :: rowE 108 2 RMap.C r.mapsV r.maps :: rowE 113 2 AList.C r.aclsV r.acls :: (r.lists.map rP ++ (r.maps.map rM ++ r.acls.map rA)) = _
  rw [e]
  simp only [List.map_append, List.map_cons, List.map_nil, List.append_assoc, List.cons_append, List.nil_append]
theorem btR_m {m0 : List RMap} {m : RMap} (e : r.maps = m0 ++ [m]) : btR r = (btR r).take 12 ++ rowE 108 2 RMap.C r.mapsV (m0 ++ [m]) :: ((rowE 113 2 AList.C r.aclsV r.acls :: (r.lists.map rP ++ m0.map rM)) ++ rM m :: r.acls.map rA) := by
  show (btR r).take 12 ++ rowE 108 2 RMap.C r.mapsV r.maps :: rowE 113 2 AList.C r.aclsV r.acls :: (r.lists.map rP ++ (r.maps.map rM ++ r.acls.map rA)) = _
  rw [e]
  simp only [List.map_append, List.map_cons, List.map_nil, List.append_assoc, List.cons_append, List.nil_append]
theorem btR_a {m0 : List AList} {m : AList} (e : r.acls = m0 ++ [m]) : btR r = (btR r).take 13 ++ rowE 113 2 AList.C r.aclsV (m0 ++ [m]) :: ((r.lists.map rP ++ (r.maps.map rM ++ m0.map rA)) ++ rA m :: []) := by
  show (btR r).take 13 ++ rowE 113 2 AList.C r.aclsV r.acls :: (r.lists.map rP ++ (r.maps.map rM ++ r.acls.map rA)) = _
  rw [e]
  simp only [List.map_append, List.map_cons, List.map_nil, List.append_assoc]
end
section
variable {α β : Type} {E E' : TypeId} {n g B b gg cap : Nat} {C : α → Array Value} {D : β → Array Value} {v V : Value} {l : List α} {l0 : List β} {m : β} {K : Kept} {w0 w : World} {r : Rt} {T : TypeId × Bool} {p : Ps} {post : List Orow}
/-- The slice of the last list of lists. -/
theorem BW.two (h : BW g B w0 r K T b p w) (e : (btR r).Perm (rowE E' 2 D V (l0 ++ [m]) :: rowE E n C v l :: post)) (hV : V = .slice (some ⟨gg, 0, none⟩) (l0.length + 1) cap) (hD : ∀ x, (D x).toList.length = 2) :
    OwnE w B E n C v l ∧ v.ownBlock ≠ some gg ∧ B ≤ gg ∧ ∃ cur, Part E' gg (l0.length * 2) cur (D m) w := by
  have hall := h.own.perm e.symm
  have ho0 : OwnE w B E' 2 D V (l0 ++ [m]) := hall.1 (rowE E' 2 D V (l0 ++ [m])) (by simp)
  obtain ⟨g', cap', cur, e1, hgB, hp, -⟩ := ho0.part (by decide) hD (k := l0.length) (by simp)
  have hVb : V.ownBlock = some gg := by rw [hV]; rfl
  rw [hV] at e1
  injection e1 with e1 _ e3
  injection e1 with e1
  injection e1 with e1 _ _
  subst e1
  rw [show (l0 ++ [m])[l0.length]'(by simp) = m from by simp] at hp
  have hd := hall.2
  rw [List.filterMap_cons_some (f := fun x : Orow => x.v.ownBlock) (b := gg) (show (rowE E' 2 D V (l0 ++ [m])).v.ownBlock = some gg from hVb)] at hd
  refine ⟨hall.1 (rowE E n C v l) (by simp), fun ev => ?_, hgB, cur, hp⟩
  rw [List.filterMap_cons_some (f := fun x : Orow => x.v.ownBlock) (b := gg) (show (rowE E n C v l).v.ownBlock = some gg from ev)] at hd
  simp at hd
end
section
variable {g B b gg cap : Nat} {K : Kept} {w0 w : World} {r : Rt} {T : TypeId × Bool} {p : Ps}
theorem add_ifs (h : BW g B w0 r K T b p w) (x : If) (h1 : (If.C x).all (·.oneCell') = true) (hl : r.ifs.length ≤ 1000000000) :
    Calls Tryz.prog 120 #[.pointer (some ⟨g, 2, none⟩), .agg (If.C x)] w fun e w' => ∃ gg cap cur, e = .returned (.pointer (some ⟨gg, r.ifs.length * 12, none⟩)) ∧ BW g B w0 { r with ifsV := .slice (some ⟨gg, 0, none⟩) (r.ifs.length + 1) cap, ifs := r.ifs ++ [x] } K T b p w' ∧ Part 67 gg (r.ifs.length * 12) cur (If.C x) w' := by
  have hm : rowE 67 12 If.C r.ifsV r.ifs ∈ btR r := List.mem_of_getElem? (i := 0) rfl
  refine (addIf B g 2 r.ifsV r.ifs x w (rowE_own.1 (h.own.1 _ hm)) (h.toBR.cell 2) (h.toBR.frz 2) (fun e => h.gr (List.mem_filterMap.2 ⟨_, hm, e⟩)) (Nat.le_trans h.bB h.size) hl h1).mono ?_
  intro e w' ha
  exact h.added (j := 2) (R := fun v' => { r with ifsV := v', ifs := r.ifs ++ [x] }) (ex := []) (permAt (t := (btR r).take 0) (z := (btR r).drop 1) rfl) ha (fun v' => permAt (t := (btR r).take 0) (z := (btR r).drop 1) rfl) (fun o ho => by cases ho) (by decide) (fun _ => rfl) (fun _ => rfl)
theorem add_stat (h : BW g B w0 r K T b p w) (x : Sr) (h1 : (Sr.C x).all (·.oneCell') = true) (hl : r.stat.length ≤ 1000000000) :
    Calls Tryz.prog 136 #[.pointer (some ⟨g, 7, none⟩), .agg (Sr.C x)] w fun e w' => ∃ gg cap cur, e = .returned (.pointer (some ⟨gg, r.stat.length * 7, none⟩)) ∧ BW g B w0 { r with statV := .slice (some ⟨gg, 0, none⟩) (r.stat.length + 1) cap, stat := r.stat ++ [x] } K T b p w' ∧ Part 73 gg (r.stat.length * 7) cur (Sr.C x) w' := by
  have hm : rowE 73 7 Sr.C r.statV r.stat ∈ btR r := List.mem_of_getElem? (i := 2) rfl
  refine (addSr B g 7 r.statV r.stat x w (rowE_own.1 (h.own.1 _ hm)) (h.toBR.cell 7) (h.toBR.frz 7) (fun e => h.gr (List.mem_filterMap.2 ⟨_, hm, e⟩)) (Nat.le_trans h.bB h.size) hl h1).mono ?_
  intro e w' ha
  exact h.added (j := 7) (R := fun v' => { r with statV := v', stat := r.stat ++ [x] }) (ex := []) (permAt (t := (btR r).take 2) (z := (btR r).drop 3) rfl) ha (fun v' => permAt (t := (btR r).take 2) (z := (btR r).drop 3) rfl) (fun o ho => by cases ho) (by decide) (fun _ => rfl) (fun _ => rfl)
theorem add_lsRed (h : BW g B w0 r K T b p w) (x : Rd) (h1 : (Rd.C x).all (·.oneCell') = true) (hl : r.lsRed.length ≤ 1000000000) :
    Calls Tryz.prog 182 #[.pointer (some ⟨g, 11, none⟩), .agg (Rd.C x)] w fun e w' => ∃ gg cap cur, e = .returned (.pointer (some ⟨gg, r.lsRed.length * 5, none⟩)) ∧ BW g B w0 { r with lsRedV := .slice (some ⟨gg, 0, none⟩) (r.lsRed.length + 1) cap, lsRed := r.lsRed ++ [x] } K T b p w' ∧ Part 192 gg (r.lsRed.length * 5) cur (Rd.C x) w' := by
  have hm : rowE 192 5 Rd.C r.lsRedV r.lsRed ∈ btR r := List.mem_of_getElem? (i := 4) rfl
  refine (addRd B g 11 r.lsRedV r.lsRed x w (rowE_own.1 (h.own.1 _ hm)) (h.toBR.cell 11) (h.toBR.frz 11) (fun e => h.gr (List.mem_filterMap.2 ⟨_, hm, e⟩)) (Nat.le_trans h.bB h.size) hl h1).mono ?_
  intro e w' ha
  exact h.added (j := 11) (R := fun v' => { r with lsRedV := v', lsRed := r.lsRed ++ [x] }) (ex := []) (permAt (t := (btR r).take 4) (z := (btR r).drop 5) rfl) ha (fun v' => permAt (t := (btR r).take 4) (z := (btR r).drop 5) rfl) (fun o ho => by cases ho) (by decide) (fun _ => rfl) (fun _ => rfl)
theorem add_dvRed (h : BW g B w0 r K T b p w) (x : Rd) (h1 : (Rd.C x).all (·.oneCell') = true) (hl : r.dvRed.length ≤ 1000000000) :
    Calls Tryz.prog 182 #[.pointer (some ⟨g, 16, none⟩), .agg (Rd.C x)] w fun e w' => ∃ gg cap cur, e = .returned (.pointer (some ⟨gg, r.dvRed.length * 5, none⟩)) ∧ BW g B w0 { r with dvRedV := .slice (some ⟨gg, 0, none⟩) (r.dvRed.length + 1) cap, dvRed := r.dvRed ++ [x] } K T b p w' ∧ Part 192 gg (r.dvRed.length * 5) cur (Rd.C x) w' := by
  have hm : rowE 192 5 Rd.C r.dvRedV r.dvRed ∈ btR r := List.mem_of_getElem? (i := 5) rfl
  refine (addRd B g 16 r.dvRedV r.dvRed x w (rowE_own.1 (h.own.1 _ hm)) (h.toBR.cell 16) (h.toBR.frz 16) (fun e => h.gr (List.mem_filterMap.2 ⟨_, hm, e⟩)) (Nat.le_trans h.bB h.size) hl h1).mono ?_
  intro e w' ha
  exact h.added (j := 16) (R := fun v' => { r with dvRedV := v', dvRed := r.dvRed ++ [x] }) (ex := []) (permAt (t := (btR r).take 5) (z := (btR r).drop 6) rfl) ha (fun v' => permAt (t := (btR r).take 5) (z := (btR r).drop 6) rfl) (fun o ho => by cases ho) (by decide) (fun _ => rfl) (fun _ => rfl)
theorem add_nb (h : BW g B w0 r K T b p w) (x : Nb) (h1 : (Nb.C x).all (·.oneCell') = true) (hl : r.nb.length ≤ 1000000000) :
    Calls Tryz.prog 141 #[.pointer (some ⟨g, 20, none⟩), .agg (Nb.C x)] w fun e w' => ∃ gg cap cur, e = .returned (.pointer (some ⟨gg, r.nb.length * 4, none⟩)) ∧ BW g B w0 { r with nbV := .slice (some ⟨gg, 0, none⟩) (r.nb.length + 1) cap, nb := r.nb ++ [x] } K T b p w' ∧ Part 124 gg (r.nb.length * 4) cur (Nb.C x) w' := by
  have hm : rowE 124 4 Nb.C r.nbV r.nb ∈ btR r := List.mem_of_getElem? (i := 6) rfl
  refine (addNb B g 20 r.nbV r.nb x w (rowE_own.1 (h.own.1 _ hm)) (h.toBR.cell 20) (h.toBR.frz 20) (fun e => h.gr (List.mem_filterMap.2 ⟨_, hm, e⟩)) (Nat.le_trans h.bB h.size) hl h1).mono ?_
  intro e w' ha
  exact h.added (j := 20) (R := fun v' => { r with nbV := v', nb := r.nb ++ [x] }) (ex := []) (permAt (t := (btR r).take 6) (z := (btR r).drop 7) rfl) ha (fun v' => permAt (t := (btR r).take 6) (z := (btR r).drop 7) rfl) (fun o ho => by cases ho) (by decide) (fun _ => rfl) (fun _ => rfl)
theorem add_pvRed (h : BW g B w0 r K T b p w) (x : Rd) (h1 : (Rd.C x).all (·.oneCell') = true) (hl : r.pvRed.length ≤ 1000000000) :
    Calls Tryz.prog 182 #[.pointer (some ⟨g, 24, none⟩), .agg (Rd.C x)] w fun e w' => ∃ gg cap cur, e = .returned (.pointer (some ⟨gg, r.pvRed.length * 5, none⟩)) ∧ BW g B w0 { r with pvRedV := .slice (some ⟨gg, 0, none⟩) (r.pvRed.length + 1) cap, pvRed := r.pvRed ++ [x] } K T b p w' ∧ Part 192 gg (r.pvRed.length * 5) cur (Rd.C x) w' := by
  have hm : rowE 192 5 Rd.C r.pvRedV r.pvRed ∈ btR r := List.mem_of_getElem? (i := 10) rfl
  refine (addRd B g 24 r.pvRedV r.pvRed x w (rowE_own.1 (h.own.1 _ hm)) (h.toBR.cell 24) (h.toBR.frz 24) (fun e => h.gr (List.mem_filterMap.2 ⟨_, hm, e⟩)) (Nat.le_trans h.bB h.size) hl h1).mono ?_
  intro e w' ha
  exact h.added (j := 24) (R := fun v' => { r with pvRedV := v', pvRed := r.pvRed ++ [x] }) (ex := []) (permAt (t := (btR r).take 10) (z := (btR r).drop 11) rfl) ha (fun v' => permAt (t := (btR r).take 10) (z := (btR r).drop 11) rfl) (fun o ho => by cases ho) (by decide) (fun _ => rfl) (fun _ => rfl)
theorem add_lists (h : BW g B w0 r K T b p w) (nm : List UInt8) (hl : r.lists.length ≤ 1000000000) :
    Calls Tryz.prog 76 #[.pointer (some ⟨g, 3, none⟩), .agg #[strV nm, .slice none 0 0]] w fun e w' => ∃ gg cap cur, e = .returned (.pointer (some ⟨gg, r.lists.length * 2, none⟩)) ∧ BW g B w0 { r with listsV := .slice (some ⟨gg, 0, none⟩) (r.lists.length + 1) cap, lists := r.lists ++ [⟨nm, .slice none 0 0, []⟩] } K T b p w' ∧ Part 103 gg (r.lists.length * 2) cur #[strV nm, .slice none 0 0] w' := by
  have hm : rowE 103 2 PList.C r.listsV r.lists ∈ btR r := List.mem_of_getElem? (i := 11) rfl
  refine (addPList B g 3 r.listsV r.lists ⟨nm, .slice none 0 0, []⟩ w (rowE_own.1 (h.own.1 _ hm)) (h.toBR.cell 3) (h.toBR.frz 3) (fun e => h.gr (List.mem_filterMap.2 ⟨_, hm, e⟩)) (Nat.le_trans h.bB h.size) hl (by simp [PList.C, strV, Value.oneCell'])).mono ?_
  intro e w' ha
  exact h.added (j := 3) (R := fun v' => { r with listsV := v', lists := r.lists ++ [⟨nm, .slice none 0 0, []⟩] }) (ex := [rP ⟨nm, .slice none 0 0, []⟩]) (permAt (t := (btR r).take 11) (z := (btR r).drop 12) rfl) ha (fun v' => by have q := permTwo (t := (btR r).take 11) (btR_l (r := { r with listsV := v', lists := r.lists ++ [⟨nm, .slice none 0 0, []⟩] }) (m0 := r.lists) (m := ⟨nm, .slice none 0 0, []⟩) rfl); exact q) (fun o ho => by obtain rfl := List.mem_singleton.1 ho; exact ⟨rfl, fun _ => OwnE.nil (cells := PRule.C)⟩) (by decide) (fun _ => rfl) (fun _ => rfl)
theorem add_maps (h : BW g B w0 r K T b p w) (nm : List UInt8) (hl : r.maps.length ≤ 1000000000) :
    Calls Tryz.prog 79 #[.pointer (some ⟨g, 4, none⟩), .agg #[strV nm, .slice none 0 0]] w fun e w' => ∃ gg cap cur, e = .returned (.pointer (some ⟨gg, r.maps.length * 2, none⟩)) ∧ BW g B w0 { r with mapsV := .slice (some ⟨gg, 0, none⟩) (r.maps.length + 1) cap, maps := r.maps ++ [⟨nm, .slice none 0 0, []⟩] } K T b p w' ∧ Part 108 gg (r.maps.length * 2) cur #[strV nm, .slice none 0 0] w' := by
  have hm : rowE 108 2 RMap.C r.mapsV r.maps ∈ btR r := List.mem_of_getElem? (i := 12) rfl
  refine (addRMap B g 4 r.mapsV r.maps ⟨nm, .slice none 0 0, []⟩ w (rowE_own.1 (h.own.1 _ hm)) (h.toBR.cell 4) (h.toBR.frz 4) (fun e => h.gr (List.mem_filterMap.2 ⟨_, hm, e⟩)) (Nat.le_trans h.bB h.size) hl (by simp [RMap.C, strV, Value.oneCell'])).mono ?_
  intro e w' ha
  exact h.added (j := 4) (R := fun v' => { r with mapsV := v', maps := r.maps ++ [⟨nm, .slice none 0 0, []⟩] }) (ex := [rM ⟨nm, .slice none 0 0, []⟩]) (permAt (t := (btR r).take 12) (z := (btR r).drop 13) rfl) ha (fun v' => by have q := permTwo (t := (btR r).take 12) (btR_m (r := { r with mapsV := v', maps := r.maps ++ [⟨nm, .slice none 0 0, []⟩] }) (m0 := r.maps) (m := ⟨nm, .slice none 0 0, []⟩) rfl); rw [List.cons_append, List.append_assoc (r.lists.map rP)] at q; exact q) (fun o ho => by obtain rfl := List.mem_singleton.1 ho; exact ⟨rfl, fun _ => OwnE.nil (cells := Cl.C)⟩) (by decide) (fun _ => rfl) (fun _ => rfl)
theorem add_acls (h : BW g B w0 r K T b p w) (nm : List UInt8) (hl : r.acls.length ≤ 1000000000) :
    Calls Tryz.prog 81 #[.pointer (some ⟨g, 5, none⟩), .agg #[strV nm, .slice none 0 0]] w fun e w' => ∃ gg cap cur, e = .returned (.pointer (some ⟨gg, r.acls.length * 2, none⟩)) ∧ BW g B w0 { r with aclsV := .slice (some ⟨gg, 0, none⟩) (r.acls.length + 1) cap, acls := r.acls ++ [⟨nm, .slice none 0 0, []⟩] } K T b p w' ∧ Part 113 gg (r.acls.length * 2) cur #[strV nm, .slice none 0 0] w' := by
  have hm : rowE 113 2 AList.C r.aclsV r.acls ∈ btR r := List.mem_of_getElem? (i := 13) rfl
  refine (addAList B g 5 r.aclsV r.acls ⟨nm, .slice none 0 0, []⟩ w (rowE_own.1 (h.own.1 _ hm)) (h.toBR.cell 5) (h.toBR.frz 5) (fun e => h.gr (List.mem_filterMap.2 ⟨_, hm, e⟩)) (Nat.le_trans h.bB h.size) hl (by simp [AList.C, strV, Value.oneCell'])).mono ?_
  intro e w' ha
  exact h.added (j := 5) (R := fun v' => { r with aclsV := v', acls := r.acls ++ [⟨nm, .slice none 0 0, []⟩] }) (ex := [rA ⟨nm, .slice none 0 0, []⟩]) (permAt (t := (btR r).take 13) (z := (btR r).drop 14) rfl) ha (fun v' => by have q := permTwo (t := (btR r).take 13) (btR_a (r := { r with aclsV := v', acls := r.acls ++ [⟨nm, .slice none 0 0, []⟩] }) (m0 := r.acls) (m := ⟨nm, .slice none 0 0, []⟩) rfl); rw [List.append_nil] at q; exact q) (fun o ho => by obtain rfl := List.mem_singleton.1 ho; exact ⟨rfl, fun _ => OwnE.nil (cells := Ru.C)⟩) (by decide) (fun _ => rfl) (fun _ => rfl)
theorem add_clauses {m0 : List RMap} {m : RMap} (h : BW g B w0 r K T b p w) (em : r.maps = m0 ++ [m]) (hV : r.mapsV = .slice (some ⟨gg, 0, none⟩) (m0.length + 1) cap) (x : Cl) (h1 : (Cl.C x).all (·.oneCell') = true) (hl : m.clauses.length ≤ 1000000000) :
    Calls Tryz.prog 129 #[.pointer (some ⟨gg, m0.length * 2 + 1, none⟩), .agg (Cl.C x)] w fun e w' => ∃ g2 cap2, e = .returned (.pointer (some ⟨g2, m.clauses.length * 7, none⟩)) ∧ BW g B w0 { r with maps := m0 ++ [⟨m.name, .slice (some ⟨g2, 0, none⟩) (m.clauses.length + 1) cap2, m.clauses ++ [x]⟩] } K T b p w' := by
  have hp := permTwo (btR_m em)
  obtain ⟨ho, hne, hgB, cur, hpa⟩ := h.two (E := 110) (n := 7) (C := Cl.C) (v := m.v) (l := m.clauses) hp hV (fun _ => rfl)
  refine (addCl B gg (m0.length * 2 + 1) m.v m.clauses x w ho (hpa.cell (j := 1) (show 1 < 2 from by decide)) (hpa.frz _) hne (Nat.le_trans h.bB h.size) hl h1).mono ?_
  intro e w' ha
  exact h.addedI (M := fun v' => ⟨m.name, v', m.clauses ++ [x]⟩) (R := fun v' => { r with maps := m0 ++ [⟨m.name, v', m.clauses ++ [x]⟩] }) hp ha (fun v' => permTwo (t := (btR r).take 12) (btR_m (r := { r with maps := m0 ++ [⟨m.name, v', m.clauses ++ [x]⟩] }) (m0 := m0) (m := ⟨m.name, v', m.clauses ++ [x]⟩) rfl)) hV (fun _ => rfl) (fun _ => rfl) (fun _ => rfl)
theorem add_rules {m0 : List AList} {m : AList} (h : BW g B w0 r K T b p w) (em : r.acls = m0 ++ [m]) (hV : r.aclsV = .slice (some ⟨gg, 0, none⟩) (m0.length + 1) cap) (x : Ru) (h1 : (Ru.C x).all (·.oneCell') = true) (hl : m.rules.length ≤ 1000000000) :
    Calls Tryz.prog 133 #[.pointer (some ⟨gg, m0.length * 2 + 1, none⟩), .agg (Ru.C x)] w fun e w' => ∃ g2 cap2, e = .returned (.pointer (some ⟨g2, m.rules.length * 10, none⟩)) ∧ BW g B w0 { r with acls := m0 ++ [⟨m.name, .slice (some ⟨g2, 0, none⟩) (m.rules.length + 1) cap2, m.rules ++ [x]⟩] } K T b p w' := by
  have hp := permTwo (btR_a em)
  obtain ⟨ho, hne, hgB, cur, hpa⟩ := h.two (E := 119) (n := 10) (C := Ru.C) (v := m.v) (l := m.rules) hp hV (fun _ => rfl)
  refine (addRu B gg (m0.length * 2 + 1) m.v m.rules x w ho (hpa.cell (j := 1) (show 1 < 2 from by decide)) (hpa.frz _) hne (Nat.le_trans h.bB h.size) hl h1).mono ?_
  intro e w' ha
  exact h.addedI (M := fun v' => ⟨m.name, v', m.rules ++ [x]⟩) (R := fun v' => { r with acls := m0 ++ [⟨m.name, v', m.rules ++ [x]⟩] }) hp ha (fun v' => permTwo (t := (btR r).take 13) (btR_a (r := { r with acls := m0 ++ [⟨m.name, v', m.rules ++ [x]⟩] }) (m0 := m0) (m := ⟨m.name, v', m.rules ++ [x]⟩) rfl)) hV (fun _ => rfl) (fun _ => rfl) (fun _ => rfl)
end
end Go.Proofs.YtmddfkpkddemnaaGreatDoor
namespace Go.Proofs.YtmddfkpkddemnaaGreatDoor
open Go.RowKit
set_option maxRecDepth 8000 in
set_option maxHeartbeats 8000000 in
theorem system_form : FormC .system := by
  intro g B b k w0 w r K kb p fv h hf he hs hr hk
  obtain rfl : fv = .func (.func 74) #[.pointer (some ⟨g, 0, none⟩)] #[] := hf
  refine ⟨74, #[.pointer (some ⟨g, 0, none⟩)], #[], rfl, enters_of Tryz.func74 (by kernel_rfl) rfl, ?_⟩
  show Calls Tryz.prog 74 #[.pointer (some ⟨g, 0, none⟩), .pointer (some ⟨b, 0, none⟩)] w _
  have H := Lib.hid h
  have HE := Lib.hid he
  have HS := Lib.hid hs
  have HR := Lib.hid hr
  have HK := Lib.hid hk
  clear h he hs hr hk
  have q0 : ((str (wV p)).toList == [104, 111, 115, 116, 45, 110, 97, 109, 101]) = (wV p == [104, 111, 115, 116, 45, 110, 97, 109, 101]) := by rw [toList_str]
  have q1 : ((str (wV p)).toList == [97, 117, 116, 111, 110, 111, 109, 111, 117, 115, 45, 115, 121, 115, 116, 101, 109]) = (wV p == [97, 117, 116, 111, 110, 111, 109, 111, 117, 115, 45, 115, 121, 115, 116, 101, 109]) := by rw [toList_str]
  go_enter Tryz.func74, Tryz.ntmps74
  go_wp2_with fail
  refine (wnext_any b B p _ H.out.st).mono ?_
  rintro e w1 ⟨rfl, h1, k1⟩
  have H1 := Lib.hid (H.out.word h1 k1)
  clear h1 k1
  unfold strV
  cases e0 : (wV p == [104, 111, 115, 116, 45, 110, 97, 109, 101]) with
  | true =>
    rw [e0] at q0
    have E : Hid (systemF r.plain p = (wV p, none, ({ r with name := nmV (wS p) }).plain, nmS (wS p))) := Lib.hid (by unfold systemF; rw [e0]; rfl)
    go_wp2_with fail
    refine (wname_any b B (wS p) _ H1.out.st).mono ?_
    rintro e w2 ⟨rfl, h2, k2⟩
    have H2 := Lib.hid (H1.out.word h2 k2)
    clear h2 k2
    unfold strV
    obtain ⟨y0, c0⟩ := H2.out.toBR.cellx 0 (by decide)
    have fz := H2.out.toBR.frz
    go_wp2_with fail
    clear c0 fz
    go_ret2
    exact ⟨_, none, { r with name := nmV (wS p) }, _, [], .nilFunc, E.out, rfl, (H2.out.put 0 _ rfl rfl), fun _ => ⟨rfl, rfl, rfl, rfl, rfl, rfl⟩, fun _ q => q, rfl, fun _ h => by cases h⟩
  | false =>
    rw [e0] at q0
    cases e1 : (wV p == [97, 117, 116, 111, 110, 111, 109, 111, 117, 115, 45, 115, 121, 115, 116, 101, 109]) with
    | true =>
      rw [e1] at q1
      have E : Hid (systemF r.plain p = (wV p, none, ({ r with asn := noV 1 65535 (wS p) }).plain, noS 1 65535 (wS p))) := Lib.hid (by unfold systemF; rw [e0, e1]; rfl)
      go_wp2_with fail
      refine (wnumber_any b B (wS p) 1 65535 _ H1.out.st).mono ?_
      rintro e w2 ⟨rfl, h2, k2⟩
      have H2 := Lib.hid (H1.out.word h2 k2)
      clear h2 k2
      obtain ⟨y1, c1⟩ := H2.out.toBR.cellx 1 (by decide)
      have fz := H2.out.toBR.frz
      go_wp2_with fail
      clear c1 fz
      go_ret2
      exact ⟨_, none, { r with asn := noV 1 65535 (wS p) }, _, [], .nilFunc, E.out, rfl, (H2.out.put 1 _ rfl rfl), fun _ => ⟨rfl, rfl, rfl, rfl, rfl, rfl⟩, fun _ q => q, rfl, fun _ h => by cases h⟩
    | false =>
      rw [e1] at q1
      have E : Hid (systemF r.plain p = (wV p, none, (r).plain, (wS p).fail)) := Lib.hid (by unfold systemF; rw [e0, e1]; rfl)
      have fb := H1.out.st.frz 2
      have cb := H1.out.st.bad1
      go_wp2_with fail
      clear fb cb
      go_ret2
      exact ⟨_, none, r, _, [], .nilFunc, E.out, rfl, H1.out.bad, fun _ => ⟨rfl, rfl, rfl, rfl, rfl, rfl⟩, fun _ q => q, rfl, fun _ h => by cases h⟩
set_option maxRecDepth 8000 in
set_option maxHeartbeats 8000000 in
theorem interfaces_form : FormC .interfaces := by
  intro g B b k w0 w r K kb p fv h hf he hs hr hk
  obtain rfl : fv = .func (.func 75) #[.pointer (some ⟨g, 0, none⟩)] #[] := hf
  refine ⟨75, #[.pointer (some ⟨g, 0, none⟩)], #[], rfl, enters_of Tryz.func75 (by kernel_rfl) rfl, ?_⟩
  show Calls Tryz.prog 75 #[.pointer (some ⟨g, 0, none⟩), .pointer (some ⟨b, 0, none⟩)] w _
  have H := Lib.hid h
  have HE := Lib.hid he
  have HS := Lib.hid hs
  have HR := Lib.hid hr
  have HK := Lib.hid hk
  clear h he hs hr hk
  have H0 := H
  go_enter Tryz.func75, Tryz.ntmps75
  have E : Hid (∀ v : Value, interfacesF r.plain p = (nmV p, some .iface, ({ r with ifsV := v, ifs := r.ifs ++ [⟨nmV p, 0, 0, 0, false, false, 0, 0, false, [], [], 0⟩] } : Rt).plain, nmS p)) := Lib.hid (fun v => rfl)
  have hbd : r.ifs.length ≤ 1000000000 := (by have h := HR.out.ifs.1; replace h : r.ifs.length ≤ k := h; have := HK.out; omega)
  go_wp2_with fail
  have D0 := Lib.hid H0.out.drew
  go_region_held3 (fun _ => True) (trivial) (first | ((with_reducible refine (wname_any b B p _ D0.out.st).mono ?_); rintro e w1 ⟨rfl, h1, k1⟩; have H1 := Lib.hid (D0.out.word h1 k1); clear h1 k1; unfold strV) | ((refine (add_ifs H1.out ⟨nmV p, 0, 0, 0, false, false, 0, 0, false, [], [], 0⟩ (by simp [If.C, strV, Value.oneCell']) hbd).mono ?_); rintro e w2 ⟨gg, cap, cur, rfl, h2, a2⟩; have H2 := Lib.hid h2; have A2 := Lib.hid a2; clear h2 a2))
  go_wp2_with fail
  have D2 := Lib.hid H2.out.drew
  have cn : w2.drew.cell? ⟨gg, r.ifs.length * 12, none⟩ = some (.string (str (nmV p))) := A2.out.cell (j := 0) (show 0 < 12 from by decide)
  have gl : gg < w2.heap.size := A2.out.lt
  have cna : ∀ o, ((w2.alloc o).drew).cell? ⟨gg, r.ifs.length * 12, none⟩ = some (.string (str (nmV p))) := fun o => (World.cell?_alloc_lt w2 o ⟨gg, r.ifs.length * 12, none⟩ gl).trans cn
  go_region_held3 (fun w' => w'.cell? ⟨gg, r.ifs.length * 12, none⟩ = some (.string (str (nmV p)))) (first | assumption | with_reducible exact cna _) (((with_reducible refine (new_iface _ _).mono ?_); rintro e w3 ⟨rfl, rfl⟩; have H3 := Lib.hid (D2.out.box (.cells #[.pointer (some ⟨gg, r.ifs.length * 12, none⟩)] 173))))
  all_goals
    go_wp2_with fail
    go_ret2
    exact ⟨_, some .iface, _, _, [_], _, E.out _, rfl, H3.out, fun _ => ⟨rfl, rfl, rfl, rfl, rfl, rfl⟩, fun _ q => q, ⟨by decide, rfl, gg, cap, r.ifs, _, _, rfl, rfl, rfl, List.mem_cons_self⟩, fun k hk => by obtain rfl := List.mem_singleton.1 hk; exact ⟨_, _, rfl⟩⟩
end Go.Proofs.YtmddfkpkddemnaaGreatDoor
namespace Go.Proofs.YtmddfkpkddemnaaGreatDoor
open Go.RowKit
set_option maxRecDepth 8000 in
set_option maxHeartbeats 8000000 in
theorem statics_form : FormC .statics := by
  intro g B b k w0 w r K kb p fv h hf he hs hr hk
  obtain rfl : fv = .func (.func 84) #[.pointer (some ⟨g, 0, none⟩)] #[] := hf
  refine ⟨84, #[.pointer (some ⟨g, 0, none⟩)], #[], rfl, enters_of Tryz.func84 (by kernel_rfl) rfl, ?_⟩
  show Calls Tryz.prog 84 #[.pointer (some ⟨g, 0, none⟩), .pointer (some ⟨b, 0, none⟩)] w _
  have H := Lib.hid h
  have HE := Lib.hid he
  have HS := Lib.hid hs
  have HR := Lib.hid hr
  have HK := Lib.hid hk
  clear h he hs hr hk
  have H0 := H
  go_enter Tryz.func84, Tryz.ntmps84
  have E : Hid (∀ v : Value, staticsF r.plain p = ([], some .static, ({ r with statV := v, stat := r.stat ++ [⟨(pxV (mustS (isW [114, 111, 117, 116, 101] p) (optS [114, 111, 117, 116, 101] p))).1, (pxV (mustS (isW [114, 111, 117, 116, 101] p) (optS [114, 111, 117, 116, 101] p))).2, 0, [], false, 5, 0⟩] } : Rt).plain, pxS (mustS (isW [114, 111, 117, 116, 101] p) (optS [114, 111, 117, 116, 101] p)))) := Lib.hid (fun v => rfl)
  have hbd : r.stat.length ≤ 1000000000 := (by have h := HR.out.stat.1; replace h : r.stat.length ≤ k := h; have := HK.out; omega)
  have one : (Sr.C ⟨(pxV (mustS (isW [114, 111, 117, 116, 101] p) (optS [114, 111, 117, 116, 101] p))).1, (pxV (mustS (isW [114, 111, 117, 116, 101] p) (optS [114, 111, 117, 116, 101] p))).2, 0, [], false, 5, 0⟩).all (·.oneCell') = true := (by simp [Sr.C, strV, Value.oneCell']) 
  go_wp2_with fail
  refine (woption_any b B p [114, 111, 117, 116, 101] _ H0.out.st).mono ?_
  rintro e w1 ⟨rfl, h1, k1⟩
  have H1 := Lib.hid (H0.out.word h1 k1)
  clear h1 k1
  go_wp2_with fail
  refine (wmust_any b B (optS [114, 111, 117, 116, 101] p) _ _ H1.out.st).mono ?_
  rintro e w2 ⟨rfl, h2, k2⟩
  have H2 := Lib.hid (H1.out.word h2 k2)
  clear h2 k2
  go_wp2_with fail
  refine (wprefix_any b B (mustS (isW [114, 111, 117, 116, 101] p) (optS [114, 111, 117, 116, 101] p)) _ H2.out.st (H2.out.toBR.env HE.out) (short_must _ (short_opt _ HS.out))).mono ?_
  rintro e w3 ⟨rfl, h3, k3⟩
  have H3 := Lib.hid (H2.out.word h3 k3)
  clear h3 k3
  go_upto_region 3 with (first | (refine wpList_storeRow rfl 73 _ _ rfl rfl (ds := Sr.C ⟨(pxV (mustS (isW [114, 111, 117, 116, 101] p) (optS [114, 111, 117, 116, 101] p))).1, (pxV (mustS (isW [114, 111, 117, 116, 101] p) (optS [114, 111, 117, 116, 101] p))).2, 0, [], false, 5, 0⟩) rfl (HasC.new _ _ _) rfl Tryz.sizeSr one ?_; intro w4 hz1 hz2))
  have X4 := Lib.hid (BX.newc H3.out hz1 (new_below hz2))
  clear hz1 hz2
  skip
  go_wp2_with fail
  have D4 := Lib.hid X4.out.drew
  have RG : Hid (∀ W, W = w4.drew → W.rangeAt _ 0 _) := Lib.hid (fun W hW => by rw [hW]; exact X4.out.has.range)
  refine wp_region_sched (· = w4.drew) [0, 1, 2, 3, 4] [5, 6, 7, 8] (by kernel_rfl) (by kernel_rfl) rfl ?_
  simp only [opsAt, List.getElem?_toArray, List.getElem?_cons_zero, List.getElem?_cons_succ]
  repeat
    (first
      | refine seqT_yields (yieldsRow (by rfl) 73 _ rfl rfl (fun W hW => RG.out W hW) Tryz.rowSr Tryz.sizeSr) ?_
      | (refine seqT_value (v := ?_) ?_ ?_ ?_; rotate_left; (· rfl); (· (intro W hW; go_simp <;> rfl))))
    simp only [Act.put, List.setIfInBounds_toArray, List.set_cons_zero, List.set_cons_succ]
  refine seqT_done ?_
  intro W hW
  subst hW
  go_wp2_with fail
  refine (add_stat D4.out.bw ⟨(pxV (mustS (isW [114, 111, 117, 116, 101] p) (optS [114, 111, 117, 116, 101] p))).1, (pxV (mustS (isW [114, 111, 117, 116, 101] p) (optS [114, 111, 117, 116, 101] p))).2, 0, [], false, 5, 0⟩ one hbd).mono ?_
  rintro e w5 ⟨gg, cap, cur, rfl, h5, -⟩
  have H5 := Lib.hid (h5.less (fun _ hk => List.mem_cons_of_mem _ hk))
  clear h5
  go_wp2_with fail
  refine (new_static _ _).mono ?_
  rintro e w6 ⟨rfl, rfl⟩
  have H6 := Lib.hid (H5.out.box (.cells #[.pointer (some ⟨gg, r.stat.length * 7, none⟩)] 189))
  go_wp2_with fail
  go_ret2
  exact ⟨_, some .static, _, _, [_], _, E.out _, rfl, H6.out, fun _ => ⟨rfl, rfl, rfl, rfl, rfl, rfl⟩, fun _ q => q, ⟨by decide, rfl, gg, cap, r.stat, _, _, rfl, rfl, rfl, List.mem_cons_self⟩, fun k hk => by obtain rfl := List.mem_singleton.1 hk; exact ⟨_, _, rfl⟩⟩
set_option maxRecDepth 8000 in
set_option maxHeartbeats 8000000 in
theorem clauses_form : FormC .clauses := by
  intro g B b k w0 w r K kb p fv h hf he hs hr hk
  obtain ⟨gg, cap, l0, x, q, e1, e2, rfl, e4⟩ := hf
  refine ⟨127, #[], #[.pointer (some ⟨q, 0, none⟩)], rfl, enters_of Tryz.func127 (by kernel_rfl) rfl, ?_⟩
  show Calls Tryz.prog 127 #[.pointer (some ⟨b, 0, none⟩), .pointer (some ⟨q, 0, none⟩)] w _
  have HL := Lib.hid e1
  have HV := Lib.hid e2
  have HQ := Lib.hid e4
  clear e1 e2 e4
  have H := Lib.hid h
  have HE := Lib.hid he
  have HS := Lib.hid hs
  have HR := Lib.hid hr
  have HK := Lib.hid hk
  clear h he hs hr hk
  have H0 := H
  go_enter Tryz.func127, Tryz.ntmps127
  have E : Hid (∀ v : Value, clausesF r.plain p = ([], some .clause, ({ r with maps := l0 ++ [⟨x.name, v, x.clauses ++ [⟨true, [], -1, -1, -1, -1, 0⟩]⟩] } : Rt).plain, (mustS (isW [116, 101, 114, 109] p) (optS [116, 101, 114, 109] p)))) := Lib.hid (fun v => by unfold clausesF; simp only [Rt.plain, HL.out, List.map_append, List.map_cons, List.map_nil, lastF_snoc])
  have hbd : x.clauses.length ≤ 1000000000 := (by have h := rulesM HR.out (x := x) (by rw [HL.out]; simp); have := HK.out; omega)
  have one : (Cl.C ⟨true, [], -1, -1, -1, -1, 0⟩).all (·.oneCell') = true := (by simp [Cl.C, strV, Value.oneCell']) 
  go_wp2_with fail
  refine (woption_any b B p [116, 101, 114, 109] _ H0.out.st).mono ?_
  rintro e w1 ⟨rfl, h1, k1⟩
  have H1 := Lib.hid (H0.out.word h1 k1)
  clear h1 k1
  go_wp2_with fail
  refine (wmust_any b B (optS [116, 101, 114, 109] p) _ _ H1.out.st).mono ?_
  rintro e w2 ⟨rfl, h2, k2⟩
  have H2 := Lib.hid (H1.out.word h2 k2)
  clear h2 k2
  go_upto_region 3 with (first | (refine wpList_storeRow rfl 110 _ _ rfl rfl (ds := Cl.C ⟨true, [], -1, -1, -1, -1, 0⟩) rfl (HasC.new _ _ _) rfl Tryz.sizeCl one ?_; intro w3 hz1 hz2))
  have X3 := Lib.hid (BX.newc H2.out hz1 (new_below hz2))
  clear hz1 hz2
  skip
  go_wp2_with fail
  have D3 := Lib.hid X3.out.drew
  have RG : Hid (∀ W, W = w3.drew → W.rangeAt _ 0 _) := Lib.hid (fun W hW => by rw [hW]; exact X3.out.has.range)
  have CK : Hid (∀ W, W = w3.drew → W.cell? ⟨q, 0, none⟩ = some _) := Lib.hid (fun W hW => by rw [hW]; exact X3.out.bw.kc (List.mem_cons_of_mem _ HQ.out))
  refine wp_region_sched (· = w3.drew) [0, 1, 2, 3] [4, 5, 6, 7] (by kernel_rfl) (by kernel_rfl) rfl ?_
  simp only [opsAt, List.getElem?_toArray, List.getElem?_cons_zero, List.getElem?_cons_succ]
  repeat
    (first
      | refine seqT_yields (yieldsRow (by rfl) 110 _ rfl rfl (fun W hW => RG.out W hW) Tryz.rowCl Tryz.sizeCl) ?_
      | (refine seqT_value (v := ?_) ?_ ?_ ?_; rotate_left; (· rfl); (· (intro W hW; have kc := CK.out W hW; clear hW; go_simp <;> rfl))))
    simp only [Act.put, List.setIfInBounds_toArray, List.set_cons_zero, List.set_cons_succ]
  refine seqT_done ?_
  intro W hW
  subst hW
  go_wp2_with fail
  refine (add_clauses D3.out.bw HL.out HV.out ⟨true, [], -1, -1, -1, -1, 0⟩ one hbd).mono ?_
  rintro e w4 ⟨g2, cap2, rfl, h4⟩
  have H4 := Lib.hid (h4.less (K' := K) (fun _ hk => by simp [hk]))
  clear h4
  go_wp2_with fail
  refine (new_clause _ _).mono ?_
  rintro e w5 ⟨rfl, rfl⟩
  have H5 := Lib.hid (H4.out.box (.cells #[.pointer (some ⟨g2, x.clauses.length * 7, none⟩)] 178))
  go_wp2_with fail
  go_ret2
  exact ⟨[], some .clause, _, _, [_], _, E.out _, rfl, H5.out, fun _ => ⟨rfl, rfl, rfl, by rw [HL.out]; simp, rfl, rfl⟩, fun _ h => ElV.stay h rfl (by rw [HL.out]; simp) (fun _ h => h), ⟨by decide, rfl, l0, _, rfl, g2, cap2, x.clauses, _, _, rfl, rfl, rfl, List.mem_cons_self⟩, fun k hk => by obtain rfl := List.mem_singleton.1 hk; exact ⟨_, _, rfl⟩⟩
set_option maxRecDepth 8000 in
set_option maxHeartbeats 8000000 in
theorem rules_form : FormC .rules := by
  intro g B b k w0 w r K kb p fv h hf he hs hr hk
  obtain ⟨gg, cap, l0, x, q, e1, e2, rfl, e4⟩ := hf
  refine ⟨130, #[], #[.pointer (some ⟨q, 0, none⟩)], rfl, enters_of Tryz.func130 (by kernel_rfl) rfl, ?_⟩
  show Calls Tryz.prog 130 #[.pointer (some ⟨b, 0, none⟩), .pointer (some ⟨q, 0, none⟩)] w _
  have HL := Lib.hid e1
  have HV := Lib.hid e2
  have HQ := Lib.hid e4
  clear e1 e2 e4
  have H := Lib.hid h
  have HE := Lib.hid he
  have HS := Lib.hid hs
  have HR := Lib.hid hr
  have HK := Lib.hid hk
  clear h he hs hr hk
  have H0 := H
  go_enter Tryz.func130, Tryz.ntmps130
  have E : Hid (∀ v : Value, rulesF r.plain p = ([], some .rule, ({ r with acls := l0 ++ [⟨x.name, v, x.rules ++ [⟨true, -1, 0, 4294967295, 0, 4294967295, 0, 65535, 0, 65535⟩]⟩] } : Rt).plain, (mustS (isW [116, 101, 114, 109] p) (optS [116, 101, 114, 109] p)))) := Lib.hid (fun v => by unfold rulesF; simp only [Rt.plain, HL.out, List.map_append, List.map_cons, List.map_nil, lastF_snoc])
  have hbd : x.rules.length ≤ 1000000000 := (by have h := (rulesA HR.out (x := x) (by rw [HL.out]; simp)).1; have := HK.out; omega)
  have one : (Ru.C ⟨true, -1, 0, 4294967295, 0, 4294967295, 0, 65535, 0, 65535⟩).all (·.oneCell') = true := (by simp [Ru.C, Value.oneCell']) 
  go_wp2_with fail
  refine (woption_any b B p [116, 101, 114, 109] _ H0.out.st).mono ?_
  rintro e w1 ⟨rfl, h1, k1⟩
  have H1 := Lib.hid (H0.out.word h1 k1)
  clear h1 k1
  go_wp2_with fail
  refine (wmust_any b B (optS [116, 101, 114, 109] p) _ _ H1.out.st).mono ?_
  rintro e w2 ⟨rfl, h2, k2⟩
  have H2 := Lib.hid (H1.out.word h2 k2)
  clear h2 k2
  have hm32 : maskN 32 = 4294967295 := by decide
  go_upto_region 3 with (go_at_call 131; refine (mask_any _ _).mono ?_; rintro e w' ⟨rfl, rfl⟩; rw [hm32])
  have X3 := Lib.hid (BX.new H2.out 115 #[.int .u32 0, .int .u32 4294967295])
  change Code.wp _ _ _ _ (w2.alloc (.cells #[.int .u32 0, .int .u32 4294967295] 115))
  generalize w2.alloc (.cells #[.int .u32 0, .int .u32 4294967295] 115) = w3 at X3 ⊢
  go_upto_region 4 with (fail)
  have X4 := Lib.hid (BX.new X3.out.bw 117 #[.int .i64 0, .int .i64 65535])
  change Code.wp _ _ _ _ (w3.alloc (.cells #[.int .i64 0, .int .i64 65535] 117))
  generalize w3.alloc (.cells #[.int .i64 0, .int .i64 65535] 117) = w4 at X4 ⊢
  have cw0 : w4.cell? ⟨w2.heap.size, 0, none⟩ = .some (.int .u32 0) := HasC.cell (X4.out.bw.keep _ (List.mem_cons_of_mem _ List.mem_cons_self)).1 0
  have cp0 : w4.cell? ⟨w3.heap.size, 0, none⟩ = .some (.int .i64 0) := X4.out.cell 0
  have cw1 : w4.cell? ⟨w2.heap.size, 1, none⟩ = .some (.int .u32 4294967295) := HasC.cell (X4.out.bw.keep _ (List.mem_cons_of_mem _ List.mem_cons_self)).1 1
  have cp1 : w4.cell? ⟨w3.heap.size, 1, none⟩ = .some (.int .i64 65535) := X4.out.cell 1
  go_upto_region 5 with (first | (refine wpList_storeRow rfl 119 _ _ rfl rfl (ds := Ru.C ⟨true, -1, 0, 4294967295, 0, 4294967295, 0, 65535, 0, 65535⟩) rfl (HasC.new _ _ _) rfl Tryz.sizeRu one ?_; intro w5 hz1 hz2))
  have X5 := Lib.hid (BX.newc X4.out.bw hz1 (new_below hz2))
  clear hz1 hz2
  skip
  go_wp2_with fail
  have D5 := Lib.hid X5.out.drew
  have RG : Hid (∀ W, W = w5.drew → W.rangeAt _ 0 _) := Lib.hid (fun W hW => by rw [hW]; exact X5.out.has.range)
  have CK : Hid (∀ W, W = w5.drew → W.cell? ⟨q, 0, none⟩ = some _) := Lib.hid (fun W hW => by rw [hW]; exact X5.out.bw.kc (List.mem_cons_of_mem _ (List.mem_cons_of_mem _ (List.mem_cons_of_mem _ HQ.out))))
  refine wp_region_sched (· = w5.drew) [0, 1, 2, 3] [4, 5, 6, 7] (by kernel_rfl) (by kernel_rfl) rfl ?_
  simp only [opsAt, List.getElem?_toArray, List.getElem?_cons_zero, List.getElem?_cons_succ]
  repeat
    (first
      | refine seqT_yields (yieldsRow (by rfl) 119 _ rfl rfl (fun W hW => RG.out W hW) Tryz.rowRu Tryz.sizeRu) ?_
      | (refine seqT_value (v := ?_) ?_ ?_ ?_; rotate_left; (· rfl); (· (intro W hW; have kc := CK.out W hW; clear hW; go_simp <;> rfl))))
    simp only [Act.put, List.setIfInBounds_toArray, List.set_cons_zero, List.set_cons_succ]
  refine seqT_done ?_
  intro W hW
  subst hW
  go_wp2_with fail
  refine (add_rules D5.out.bw HL.out HV.out ⟨true, -1, 0, 4294967295, 0, 4294967295, 0, 65535, 0, 65535⟩ one hbd).mono ?_
  rintro e w6 ⟨g2, cap2, rfl, h6⟩
  have H6 := Lib.hid (h6.less (K' := K) (fun _ hk => by simp [hk]))
  clear h6
  go_wp2_with fail
  refine (new_rule _ _).mono ?_
  rintro e w7 ⟨rfl, rfl⟩
  have H7 := Lib.hid (H6.out.box (.cells #[.pointer (some ⟨g2, x.rules.length * 10, none⟩)] 180))
  go_wp2_with fail
  go_ret2
  exact ⟨[], some .rule, _, _, [_], _, E.out _, rfl, H7.out, fun _ => ⟨rfl, rfl, rfl, rfl, rfl, by rw [HL.out]; simp⟩, fun _ h => ElV.stay h rfl (by rw [HL.out]; simp) (fun _ h => h), ⟨by decide, rfl, l0, _, rfl, g2, cap2, x.rules, _, _, rfl, rfl, rfl, List.mem_cons_self⟩, fun k hk => by obtain rfl := List.mem_singleton.1 hk; exact ⟨_, _, rfl⟩⟩
end Go.Proofs.YtmddfkpkddemnaaGreatDoor
