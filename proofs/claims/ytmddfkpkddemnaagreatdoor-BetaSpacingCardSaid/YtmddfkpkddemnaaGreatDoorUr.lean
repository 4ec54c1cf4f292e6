/- A router without where its slices lie. No condition. -/
import Derived.Test.YtmddfkpkddemnaaGreatDoorUq
import Derived.Test.YtmddfkpkddemnaaGreatDoorUo
import Derived.Test.YtmddfkpkddemnaaGreatDoorUm
import Derived.Deep.RegionHeld3
namespace Go.Proofs.YtmddfkpkddemnaaGreatDoor
open Go.RowKit
theorem adV_lt (p : Ps) : adV p < 4294967296 := by
  unfold adV
  cases h : parseA (wV p) with
  | none => simp
  | some a => simpa using parseA_lt h
theorem hoV_lt (p : Ps) : (hoV p).1 < 4294967296 := by
  unfold hoV
  cases h : hostA (wV p) with
  | none => simp
  | some a => obtain ⟨a, n⟩ := a; simpa using (hostA_lt h).1
theorem pxV_lt (p : Ps) : (pxV p).1 < 4294967296 := by
  unfold pxV
  cases h : pfxA (wV p) with
  | none => simp
  | some a => obtain ⟨a, n⟩ := a; simpa using (pfxA_fit h).1
theorem wildA_lt {l : List UInt8} {x : Nat × Nat} (h : wildA l = some x) : x.1 < 4294967296 ∧ x.2 < 4294967296 := by
  unfold wildA at h
  split at h
  · cases h; simp
  · split at h
    · rename_i a ha; cases h; exact ⟨parseA_lt ha, by simp⟩
    · split at h
      · rename_i p hp; cases h; obtain ⟨a, n⟩ := p; exact ⟨(pfxA_fit hp).1, by dsimp only; omega⟩
      · split at h
        · cases h
        · rename_i a ha
          split at h
          · cases h
          · rename_i m hm
            split at h
            · cases h; exact ⟨parseA_lt ha, parseA_lt hm⟩
            · cases h
theorem wiV_lt (p : Ps) : (wiV p).1 < 4294967296 ∧ (wiV p).2 < 4294967296 := by
  unfold wiV
  cases h : wildA (wV p) with
  | none => simp
  | some a => simpa using wildA_lt h
/-- At most k elements, all of which fit. -/
def LF {α : Type} (fit : α → Prop) (k : Nat) (l : List α) : Prop := l.length ≤ k ∧ ∀ x ∈ l, fit x
section
variable {α : Type} {fit fit' : α → Prop} {k : Nat} {l : List α}
theorem LF.nil : LF fit k [] := ⟨Nat.zero_le _, fun _ h => by cases h⟩
theorem LF.up (h : LF fit k l) : LF fit (k + 1) l := ⟨Nat.le_succ_of_le h.1, h.2⟩
theorem LF.imp (h : LF fit k l) (hi : ∀ x, fit x → fit' x) : LF fit' (k + 1) l := ⟨Nat.le_succ_of_le h.1, fun x hx => hi x (h.2 x hx)⟩
theorem LF.imp' (h : LF fit k l) (hi : ∀ x, fit x → fit' x) : LF fit' k l := ⟨h.1, fun x hx => hi x (h.2 x hx)⟩
theorem LF.snoc (h : LF fit k l) {x : α} (hx : fit x) : LF fit (k + 1) (l ++ [x]) :=
  ⟨by rw [List.length_append]; have := h.1; simp; omega, fun y hy => by
    rcases List.mem_append.1 hy with hy | hy
    · exact h.2 y hy
    · obtain rfl := List.mem_singleton.1 hy; exact hx⟩
theorem lastF_len (f : α → α) : ∀ l : List α, (lastF f l).length = l.length
  | [] => rfl
  | [_] => rfl
  | x :: y :: r => by
    rw [lastF, List.length_cons, lastF_len f (y :: r)]
    · rfl
    · intro h; cases h
theorem lastF_mem (f : α → α) : ∀ (l : List α) (y : α), y ∈ lastF f l → y ∈ l ∨ ∃ x ∈ l, y = f x
  | [], _, h => by cases h
  | [x], y, h => by
    rw [lastF, List.mem_singleton] at h
    exact .inr ⟨x, List.mem_cons_self, h⟩
  | x :: z :: r, y, h => by
    rw [lastF] at h
    · rcases List.mem_cons.1 h with h | h
      · exact .inl (h ▸ List.mem_cons_self)
      · rcases lastF_mem f (z :: r) y h with h | ⟨u, h, e⟩
        · exact .inl (List.mem_cons_of_mem _ h)
        · exact .inr ⟨u, List.mem_cons_of_mem _ h, e⟩
    · intro h; cases h
theorem LF.last (h : LF fit k l) {f : α → α} (hf : ∀ x, fit x → fit' (f x)) (hi : ∀ x, fit x → fit' x) : LF fit' (k + 1) (lastF f l) :=
  ⟨by rw [lastF_len]; exact Nat.le_succ_of_le h.1, fun y hy => by
    rcases lastF_mem f l y hy with hy | ⟨x, hx, rfl⟩
    · exact hi _ (h.2 y hy)
    · exact hf _ (h.2 x hx)⟩
end
def PLk (k : Nat) (l : PList) : Prop := LF PRule.fit k l.rules
def RMk (k : Nat) (m : RMap) : Prop := LF Cl.fit k m.clauses
def ALk (k : Nat) (l : AList) : Prop := LF Ru.fit k l.rules
/-- The router behind k nodes. -/
structure RtI (k : Nat) (r : Rt) : Prop where
  ifs : LF (If.fit) k r.ifs
  lists : LF (PLk k) k r.lists
  maps : LF (RMk k) k r.maps
  acls : LF (ALk k) k r.acls
  nat : LF (Tr.fit) k r.nat
  stat : LF (Sr.fit) k r.stat
  ranges : LF (AR.fit) k r.ranges
  lsRed : LF (Rd.fit) k r.lsRed
  dvRed : LF (Rd.fit) k r.dvRed
  nb : LF (Nb.fit) k r.nb
  net : LF (Pf.fit) k r.net
  ag : LF (Ag.fit) k r.ag
  cd : LF (Cd.fit) k r.cd
  pvRed : LF (Rd.fit) k r.pvRed
section
variable {k : Nat} {r : Rt}
theorem RtI.up (h : RtI k r) : RtI (k + 1) r := ⟨h.ifs.up, h.lists.imp fun _ hx => LF.up hx, h.maps.imp fun _ hx => LF.up hx, h.acls.imp fun _ hx => LF.up hx, h.nat.up, h.stat.up, h.ranges.up, h.lsRed.up, h.dvRed.up, h.nb.up, h.net.up, h.ag.up, h.cd.up, h.pvRed.up⟩
theorem RtI.set_ifs (h : RtI k r) {l} (hl : LF (If.fit) k l) : RtI k { r with ifs := l } := ⟨hl, h.lists, h.maps, h.acls, h.nat, h.stat, h.ranges, h.lsRed, h.dvRed, h.nb, h.net, h.ag, h.cd, h.pvRed⟩
theorem RtI.set_lists (h : RtI k r) {l} (hl : LF (PLk k) k l) : RtI k { r with lists := l } := ⟨h.ifs, hl, h.maps, h.acls, h.nat, h.stat, h.ranges, h.lsRed, h.dvRed, h.nb, h.net, h.ag, h.cd, h.pvRed⟩
theorem RtI.set_maps (h : RtI k r) {l} (hl : LF (RMk k) k l) : RtI k { r with maps := l } := ⟨h.ifs, h.lists, hl, h.acls, h.nat, h.stat, h.ranges, h.lsRed, h.dvRed, h.nb, h.net, h.ag, h.cd, h.pvRed⟩
theorem RtI.set_acls (h : RtI k r) {l} (hl : LF (ALk k) k l) : RtI k { r with acls := l } := ⟨h.ifs, h.lists, h.maps, hl, h.nat, h.stat, h.ranges, h.lsRed, h.dvRed, h.nb, h.net, h.ag, h.cd, h.pvRed⟩
theorem RtI.set_nat (h : RtI k r) {l} (hl : LF (Tr.fit) k l) : RtI k { r with nat := l } := ⟨h.ifs, h.lists, h.maps, h.acls, hl, h.stat, h.ranges, h.lsRed, h.dvRed, h.nb, h.net, h.ag, h.cd, h.pvRed⟩
theorem RtI.set_stat (h : RtI k r) {l} (hl : LF (Sr.fit) k l) : RtI k { r with stat := l } := ⟨h.ifs, h.lists, h.maps, h.acls, h.nat, hl, h.ranges, h.lsRed, h.dvRed, h.nb, h.net, h.ag, h.cd, h.pvRed⟩
theorem RtI.set_ranges (h : RtI k r) {l} (hl : LF (AR.fit) k l) : RtI k { r with ranges := l } := ⟨h.ifs, h.lists, h.maps, h.acls, h.nat, h.stat, hl, h.lsRed, h.dvRed, h.nb, h.net, h.ag, h.cd, h.pvRed⟩
theorem RtI.set_lsRed (h : RtI k r) {l} (hl : LF (Rd.fit) k l) : RtI k { r with lsRed := l } := ⟨h.ifs, h.lists, h.maps, h.acls, h.nat, h.stat, h.ranges, hl, h.dvRed, h.nb, h.net, h.ag, h.cd, h.pvRed⟩
theorem RtI.set_dvRed (h : RtI k r) {l} (hl : LF (Rd.fit) k l) : RtI k { r with dvRed := l } := ⟨h.ifs, h.lists, h.maps, h.acls, h.nat, h.stat, h.ranges, h.lsRed, hl, h.nb, h.net, h.ag, h.cd, h.pvRed⟩
theorem RtI.set_nb (h : RtI k r) {l} (hl : LF (Nb.fit) k l) : RtI k { r with nb := l } := ⟨h.ifs, h.lists, h.maps, h.acls, h.nat, h.stat, h.ranges, h.lsRed, h.dvRed, hl, h.net, h.ag, h.cd, h.pvRed⟩
theorem RtI.set_net (h : RtI k r) {l} (hl : LF (Pf.fit) k l) : RtI k { r with net := l } := ⟨h.ifs, h.lists, h.maps, h.acls, h.nat, h.stat, h.ranges, h.lsRed, h.dvRed, h.nb, hl, h.ag, h.cd, h.pvRed⟩
theorem RtI.set_ag (h : RtI k r) {l} (hl : LF (Ag.fit) k l) : RtI k { r with ag := l } := ⟨h.ifs, h.lists, h.maps, h.acls, h.nat, h.stat, h.ranges, h.lsRed, h.dvRed, h.nb, h.net, hl, h.cd, h.pvRed⟩
theorem RtI.set_cd (h : RtI k r) {l} (hl : LF (Cd.fit) k l) : RtI k { r with cd := l } := ⟨h.ifs, h.lists, h.maps, h.acls, h.nat, h.stat, h.ranges, h.lsRed, h.dvRed, h.nb, h.net, h.ag, hl, h.pvRed⟩
theorem RtI.set_pvRed (h : RtI k r) {l} (hl : LF (Rd.fit) k l) : RtI k { r with pvRed := l } := ⟨h.ifs, h.lists, h.maps, h.acls, h.nat, h.stat, h.ranges, h.lsRed, h.dvRed, h.nb, h.net, h.ag, h.cd, hl⟩
/-- A router whose lists are as they were. -/
theorem RtI.same (h : RtI k r) {r' : Rt} (e : (r'.ifs, r'.lists, r'.maps, r'.acls, r'.nat, r'.stat, r'.ranges, r'.lsRed, r'.dvRed, r'.nb, r'.net, r'.ag, r'.cd, r'.pvRed) = (r.ifs, r.lists, r.maps, r.acls, r.nat, r.stat, r.ranges, r.lsRed, r.dvRed, r.nb, r.net, r.ag, r.cd, r.pvRed)) : RtI (k + 1) r' := by
  simp only [Prod.mk.injEq] at e
  obtain ⟨e0, e1, e2, e3, e4, e5, e6, e7, e8, e9, e10, e11, e12, e13⟩ := e
  exact ⟨e0 ▸ h.up.ifs, e1 ▸ h.up.lists, e2 ▸ h.up.maps, e3 ▸ h.up.acls, e4 ▸ h.up.nat, e5 ▸ h.up.stat, e6 ▸ h.up.ranges, e7 ▸ h.up.lsRed, e8 ▸ h.up.dvRed, e9 ▸ h.up.nb, e10 ▸ h.up.net, e11 ▸ h.up.ag, e12 ▸ h.up.cd, e13 ▸ h.up.pvRed⟩
theorem ite_ok {c : Prop} [Decidable c] {a b : FmR} (ha : RtI k a.2.2.1) (hb : RtI k b.2.2.1) : RtI k (if c then a else b).2.2.1 := by split; exact ha; exact hb
theorem new_lists (h : RtI k r) (x : List UInt8) (v : Value) : RtI (k + 1) { r with lists := r.lists ++ [⟨x, v, []⟩] } := h.up.set_lists (LF.snoc (fit := PLk (k + 1)) (h.lists.imp' fun _ hl => LF.up hl) (x := ⟨x, v, []⟩) ⟨Nat.zero_le _, fun _ h => by cases h⟩)
theorem new_maps (h : RtI k r) (x : List UInt8) (v : Value) : RtI (k + 1) { r with maps := r.maps ++ [⟨x, v, []⟩] } := h.up.set_maps (LF.snoc (fit := RMk (k + 1)) (h.maps.imp' fun _ hl => LF.up hl) (x := ⟨x, v, []⟩) ⟨Nat.zero_le _, fun _ h => by cases h⟩)
theorem new_acls (h : RtI k r) (x : List UInt8) (v : Value) : RtI (k + 1) { r with acls := r.acls ++ [⟨x, v, []⟩] } := h.up.set_acls (LF.snoc (fit := ALk (k + 1)) (h.acls.imp' fun _ hl => LF.up hl) (x := ⟨x, v, []⟩) ⟨Nat.zero_le _, fun _ h => by cases h⟩)
theorem z32 : (0 : Nat) < 4294967296 := by decide
theorem ifF_ok (h : RtI k r) {g : If → If} (hg : ∀ x, If.fit x → If.fit (g x)) : RtI (k + 1) (ifF g r) := h.up.set_ifs (h.ifs.last hg fun _ hx => hx)
theorem plF_ok (h : RtI k r) {x : PRule} (hx : x.fit) : RtI (k + 1) (plF x r) := h.up.set_lists (h.lists.last (fun _ hl => LF.snoc hl hx) fun _ hl => LF.up hl)
theorem clF_ok (h : RtI k r) {g : Cl → Cl} : RtI (k + 1) (clF g r) := h.up.set_maps (h.maps.last (fun _ hl => LF.last hl (fun _ _ => trivial) fun _ _ => trivial) fun _ hl => LF.up hl)
theorem ruF_ok (h : RtI k r) {g : Ru → Ru} (hg : ∀ x, Ru.fit x → Ru.fit (g x)) : RtI (k + 1) (ruF g r) := h.up.set_acls (h.acls.last (fun _ hl => LF.last hl hg fun _ hx => hx) fun _ hl => LF.up hl)
theorem stF_ok (h : RtI k r) {g : Sr → Sr} (hg : ∀ x, Sr.fit x → Sr.fit (g x)) : RtI (k + 1) (stF g r) := h.up.set_stat (h.stat.last hg fun _ hx => hx)
theorem nbF_ok (h : RtI k r) {g : Nb → Nb} (hg : ∀ x, Nb.fit x → Nb.fit (g x)) : RtI (k + 1) (nbF' g r) := h.up.set_nb (h.nb.last hg fun _ hx => hx)
theorem natF_fit (p : Ps) : (natF p).1.fit := by
  unfold natF
  repeat' split
  all_goals first | exact ⟨adV_lt _, adV_lt _, z32, z32⟩ | exact ⟨z32, z32, adV_lt _, adV_lt _⟩ | exact ⟨z32, z32, z32, z32⟩
theorem topF_ok (h : RtI k r) (p : Ps) : RtI (k + 1) (topF r p).2.2.1 := by
  unfold topF
  try unfold impS
  try dsimp only
  repeat' refine ite_ok ?_ ?_
  all_goals try dsimp only
  all_goals first
    | exact h.up
    | exact h.same rfl
    | exact ifF_ok h fun _ hx => hx
    | exact ifF_ok h fun _ _ => hoV_lt _
    | exact plF_ok h (pxV_lt _)
    | exact clF_ok h
    | exact ruF_ok h fun _ hx => hx
    | exact ruF_ok h fun _ hx => ⟨(wiV_lt _).1, (wiV_lt _).2, hx.2.2.1, hx.2.2.2⟩
    | exact ruF_ok h fun _ hx => ⟨hx.1, hx.2.1, (wiV_lt _).1, (wiV_lt _).2⟩
    | exact stF_ok h fun _ hx => hx
    | exact stF_ok h fun _ hx => ⟨hx.1, adV_lt _⟩
    | exact nbF_ok h fun _ hx => hx
    | exact h.up.set_ifs (h.ifs.snoc z32)
    | exact new_lists h _ _
    | exact new_maps h _ _
    | exact new_acls h _ _
    | exact h.up.set_maps (h.maps.last (fun _ hl => LF.snoc hl trivial) fun _ hl => LF.up hl)
    | exact h.up.set_acls (h.acls.last (fun _ hl => LF.snoc hl ⟨z32, (by decide), z32, (by decide)⟩) fun _ hl => LF.up hl)
    | exact h.up.set_nat (h.nat.snoc (natF_fit _))
    | exact h.up.set_stat (h.stat.snoc ⟨pxV_lt _, z32⟩)
    | exact h.up.set_ranges (h.ranges.snoc (pxV_lt _))
    | exact h.up.set_lsRed (h.lsRed.snoc trivial)
    | exact h.up.set_dvRed (h.dvRed.snoc trivial)
    | exact h.up.set_pvRed (h.pvRed.snoc trivial)
    | exact h.up.set_nb (h.nb.snoc (adV_lt _))
    | exact h.up.set_net (h.net.snoc (pxV_lt _))
    | exact h.up.set_ag (h.ag.snoc (pxV_lt _))
    | (refine h.up.set_cd (h.cd.snoc ?_); exact ⟨pxV_lt _, pxV_lt _⟩)
theorem systemF_ok (h : RtI k r) (p : Ps) : RtI (k + 1) (systemF r p).2.2.1 := by
  unfold systemF
  try unfold impS
  try dsimp only
  repeat' refine ite_ok ?_ ?_
  all_goals try dsimp only
  all_goals first
    | exact h.up
    | exact h.same rfl
    | exact ifF_ok h fun _ hx => hx
    | exact ifF_ok h fun _ _ => hoV_lt _
    | exact plF_ok h (pxV_lt _)
    | exact clF_ok h
    | exact ruF_ok h fun _ hx => hx
    | exact ruF_ok h fun _ hx => ⟨(wiV_lt _).1, (wiV_lt _).2, hx.2.2.1, hx.2.2.2⟩
    | exact ruF_ok h fun _ hx => ⟨hx.1, hx.2.1, (wiV_lt _).1, (wiV_lt _).2⟩
    | exact stF_ok h fun _ hx => hx
    | exact stF_ok h fun _ hx => ⟨hx.1, adV_lt _⟩
    | exact nbF_ok h fun _ hx => hx
    | exact h.up.set_ifs (h.ifs.snoc z32)
    | exact new_lists h _ _
    | exact new_maps h _ _
    | exact new_acls h _ _
    | exact h.up.set_maps (h.maps.last (fun _ hl => LF.snoc hl trivial) fun _ hl => LF.up hl)
    | exact h.up.set_acls (h.acls.last (fun _ hl => LF.snoc hl ⟨z32, (by decide), z32, (by decide)⟩) fun _ hl => LF.up hl)
    | exact h.up.set_nat (h.nat.snoc (natF_fit _))
    | exact h.up.set_stat (h.stat.snoc ⟨pxV_lt _, z32⟩)
    | exact h.up.set_ranges (h.ranges.snoc (pxV_lt _))
    | exact h.up.set_lsRed (h.lsRed.snoc trivial)
    | exact h.up.set_dvRed (h.dvRed.snoc trivial)
    | exact h.up.set_pvRed (h.pvRed.snoc trivial)
    | exact h.up.set_nb (h.nb.snoc (adV_lt _))
    | exact h.up.set_net (h.net.snoc (pxV_lt _))
    | exact h.up.set_ag (h.ag.snoc (pxV_lt _))
    | (refine h.up.set_cd (h.cd.snoc ?_); exact ⟨pxV_lt _, pxV_lt _⟩)
theorem interfacesF_ok (h : RtI k r) (p : Ps) : RtI (k + 1) (interfacesF r p).2.2.1 := by
  unfold interfacesF
  try unfold impS
  try dsimp only
  repeat' refine ite_ok ?_ ?_
  all_goals try dsimp only
  all_goals first
    | exact h.up
    | exact h.same rfl
    | exact ifF_ok h fun _ hx => hx
    | exact ifF_ok h fun _ _ => hoV_lt _
    | exact plF_ok h (pxV_lt _)
    | exact clF_ok h
    | exact ruF_ok h fun _ hx => hx
    | exact ruF_ok h fun _ hx => ⟨(wiV_lt _).1, (wiV_lt _).2, hx.2.2.1, hx.2.2.2⟩
    | exact ruF_ok h fun _ hx => ⟨hx.1, hx.2.1, (wiV_lt _).1, (wiV_lt _).2⟩
    | exact stF_ok h fun _ hx => hx
    | exact stF_ok h fun _ hx => ⟨hx.1, adV_lt _⟩
    | exact nbF_ok h fun _ hx => hx
    | exact h.up.set_ifs (h.ifs.snoc z32)
    | exact new_lists h _ _
    | exact new_maps h _ _
    | exact new_acls h _ _
    | exact h.up.set_maps (h.maps.last (fun _ hl => LF.snoc hl trivial) fun _ hl => LF.up hl)
    | exact h.up.set_acls (h.acls.last (fun _ hl => LF.snoc hl ⟨z32, (by decide), z32, (by decide)⟩) fun _ hl => LF.up hl)
    | exact h.up.set_nat (h.nat.snoc (natF_fit _))
    | exact h.up.set_stat (h.stat.snoc ⟨pxV_lt _, z32⟩)
    | exact h.up.set_ranges (h.ranges.snoc (pxV_lt _))
    | exact h.up.set_lsRed (h.lsRed.snoc trivial)
    | exact h.up.set_dvRed (h.dvRed.snoc trivial)
    | exact h.up.set_pvRed (h.pvRed.snoc trivial)
    | exact h.up.set_nb (h.nb.snoc (adV_lt _))
    | exact h.up.set_net (h.net.snoc (pxV_lt _))
    | exact h.up.set_ag (h.ag.snoc (pxV_lt _))
    | (refine h.up.set_cd (h.cd.snoc ?_); exact ⟨pxV_lt _, pxV_lt _⟩)
theorem ifaceF_ok (h : RtI k r) (p : Ps) : RtI (k + 1) (ifaceF r p).2.2.1 := by
  unfold ifaceF
  try unfold impS
  try dsimp only
  repeat' refine ite_ok ?_ ?_
  all_goals try dsimp only
  all_goals first
    | exact h.up
    | exact h.same rfl
    | exact ifF_ok h fun _ hx => hx
    | exact ifF_ok h fun _ _ => hoV_lt _
    | exact plF_ok h (pxV_lt _)
    | exact clF_ok h
    | exact ruF_ok h fun _ hx => hx
    | exact ruF_ok h fun _ hx => ⟨(wiV_lt _).1, (wiV_lt _).2, hx.2.2.1, hx.2.2.2⟩
    | exact ruF_ok h fun _ hx => ⟨hx.1, hx.2.1, (wiV_lt _).1, (wiV_lt _).2⟩
    | exact stF_ok h fun _ hx => hx
    | exact stF_ok h fun _ hx => ⟨hx.1, adV_lt _⟩
    | exact nbF_ok h fun _ hx => hx
    | exact h.up.set_ifs (h.ifs.snoc z32)
    | exact new_lists h _ _
    | exact new_maps h _ _
    | exact new_acls h _ _
    | exact h.up.set_maps (h.maps.last (fun _ hl => LF.snoc hl trivial) fun _ hl => LF.up hl)
    | exact h.up.set_acls (h.acls.last (fun _ hl => LF.snoc hl ⟨z32, (by decide), z32, (by decide)⟩) fun _ hl => LF.up hl)
    | exact h.up.set_nat (h.nat.snoc (natF_fit _))
    | exact h.up.set_stat (h.stat.snoc ⟨pxV_lt _, z32⟩)
    | exact h.up.set_ranges (h.ranges.snoc (pxV_lt _))
    | exact h.up.set_lsRed (h.lsRed.snoc trivial)
    | exact h.up.set_dvRed (h.dvRed.snoc trivial)
    | exact h.up.set_pvRed (h.pvRed.snoc trivial)
    | exact h.up.set_nb (h.nb.snoc (adV_lt _))
    | exact h.up.set_net (h.net.snoc (pxV_lt _))
    | exact h.up.set_ag (h.ag.snoc (pxV_lt _))
    | (refine h.up.set_cd (h.cd.snoc ?_); exact ⟨pxV_lt _, pxV_lt _⟩)
theorem prefixRulesF_ok (h : RtI k r) (p : Ps) : RtI (k + 1) (prefixRulesF r p).2.2.1 := by
  unfold prefixRulesF
  try unfold impS
  try dsimp only
  repeat' refine ite_ok ?_ ?_
  all_goals try dsimp only
  all_goals first
    | exact h.up
    | exact h.same rfl
    | exact ifF_ok h fun _ hx => hx
    | exact ifF_ok h fun _ _ => hoV_lt _
    | exact plF_ok h (pxV_lt _)
    | exact clF_ok h
    | exact ruF_ok h fun _ hx => hx
    | exact ruF_ok h fun _ hx => ⟨(wiV_lt _).1, (wiV_lt _).2, hx.2.2.1, hx.2.2.2⟩
    | exact ruF_ok h fun _ hx => ⟨hx.1, hx.2.1, (wiV_lt _).1, (wiV_lt _).2⟩
    | exact stF_ok h fun _ hx => hx
    | exact stF_ok h fun _ hx => ⟨hx.1, adV_lt _⟩
    | exact nbF_ok h fun _ hx => hx
    | exact h.up.set_ifs (h.ifs.snoc z32)
    | exact new_lists h _ _
    | exact new_maps h _ _
    | exact new_acls h _ _
    | exact h.up.set_maps (h.maps.last (fun _ hl => LF.snoc hl trivial) fun _ hl => LF.up hl)
    | exact h.up.set_acls (h.acls.last (fun _ hl => LF.snoc hl ⟨z32, (by decide), z32, (by decide)⟩) fun _ hl => LF.up hl)
    | exact h.up.set_nat (h.nat.snoc (natF_fit _))
    | exact h.up.set_stat (h.stat.snoc ⟨pxV_lt _, z32⟩)
    | exact h.up.set_ranges (h.ranges.snoc (pxV_lt _))
    | exact h.up.set_lsRed (h.lsRed.snoc trivial)
    | exact h.up.set_dvRed (h.dvRed.snoc trivial)
    | exact h.up.set_pvRed (h.pvRed.snoc trivial)
    | exact h.up.set_nb (h.nb.snoc (adV_lt _))
    | exact h.up.set_net (h.net.snoc (pxV_lt _))
    | exact h.up.set_ag (h.ag.snoc (pxV_lt _))
    | (refine h.up.set_cd (h.cd.snoc ?_); exact ⟨pxV_lt _, pxV_lt _⟩)
theorem clausesF_ok (h : RtI k r) (p : Ps) : RtI (k + 1) (clausesF r p).2.2.1 := by
  unfold clausesF
  try unfold impS
  try dsimp only
  repeat' refine ite_ok ?_ ?_
  all_goals try dsimp only
  all_goals first
    | exact h.up
    | exact h.same rfl
    | exact ifF_ok h fun _ hx => hx
    | exact ifF_ok h fun _ _ => hoV_lt _
    | exact plF_ok h (pxV_lt _)
    | exact clF_ok h
    | exact ruF_ok h fun _ hx => hx
    | exact ruF_ok h fun _ hx => ⟨(wiV_lt _).1, (wiV_lt _).2, hx.2.2.1, hx.2.2.2⟩
    | exact ruF_ok h fun _ hx => ⟨hx.1, hx.2.1, (wiV_lt _).1, (wiV_lt _).2⟩
    | exact stF_ok h fun _ hx => hx
    | exact stF_ok h fun _ hx => ⟨hx.1, adV_lt _⟩
    | exact nbF_ok h fun _ hx => hx
    | exact h.up.set_ifs (h.ifs.snoc z32)
    | exact new_lists h _ _
    | exact new_maps h _ _
    | exact new_acls h _ _
    | exact h.up.set_maps (h.maps.last (fun _ hl => LF.snoc hl trivial) fun _ hl => LF.up hl)
    | exact h.up.set_acls (h.acls.last (fun _ hl => LF.snoc hl ⟨z32, (by decide), z32, (by decide)⟩) fun _ hl => LF.up hl)
    | exact h.up.set_nat (h.nat.snoc (natF_fit _))
    | exact h.up.set_stat (h.stat.snoc ⟨pxV_lt _, z32⟩)
    | exact h.up.set_ranges (h.ranges.snoc (pxV_lt _))
    | exact h.up.set_lsRed (h.lsRed.snoc trivial)
    | exact h.up.set_dvRed (h.dvRed.snoc trivial)
    | exact h.up.set_pvRed (h.pvRed.snoc trivial)
    | exact h.up.set_nb (h.nb.snoc (adV_lt _))
    | exact h.up.set_net (h.net.snoc (pxV_lt _))
    | exact h.up.set_ag (h.ag.snoc (pxV_lt _))
    | (refine h.up.set_cd (h.cd.snoc ?_); exact ⟨pxV_lt _, pxV_lt _⟩)
theorem clauseF_ok (h : RtI k r) (p : Ps) : RtI (k + 1) (clauseF r p).2.2.1 := by
  unfold clauseF
  try unfold impS
  try dsimp only
  repeat' refine ite_ok ?_ ?_
  all_goals try dsimp only
  all_goals first
    | exact h.up
    | exact h.same rfl
    | exact ifF_ok h fun _ hx => hx
    | exact ifF_ok h fun _ _ => hoV_lt _
    | exact plF_ok h (pxV_lt _)
    | exact clF_ok h
    | exact ruF_ok h fun _ hx => hx
    | exact ruF_ok h fun _ hx => ⟨(wiV_lt _).1, (wiV_lt _).2, hx.2.2.1, hx.2.2.2⟩
    | exact ruF_ok h fun _ hx => ⟨hx.1, hx.2.1, (wiV_lt _).1, (wiV_lt _).2⟩
    | exact stF_ok h fun _ hx => hx
    | exact stF_ok h fun _ hx => ⟨hx.1, adV_lt _⟩
    | exact nbF_ok h fun _ hx => hx
    | exact h.up.set_ifs (h.ifs.snoc z32)
    | exact new_lists h _ _
    | exact new_maps h _ _
    | exact new_acls h _ _
    | exact h.up.set_maps (h.maps.last (fun _ hl => LF.snoc hl trivial) fun _ hl => LF.up hl)
    | exact h.up.set_acls (h.acls.last (fun _ hl => LF.snoc hl ⟨z32, (by decide), z32, (by decide)⟩) fun _ hl => LF.up hl)
    | exact h.up.set_nat (h.nat.snoc (natF_fit _))
    | exact h.up.set_stat (h.stat.snoc ⟨pxV_lt _, z32⟩)
    | exact h.up.set_ranges (h.ranges.snoc (pxV_lt _))
    | exact h.up.set_lsRed (h.lsRed.snoc trivial)
    | exact h.up.set_dvRed (h.dvRed.snoc trivial)
    | exact h.up.set_pvRed (h.pvRed.snoc trivial)
    | exact h.up.set_nb (h.nb.snoc (adV_lt _))
    | exact h.up.set_net (h.net.snoc (pxV_lt _))
    | exact h.up.set_ag (h.ag.snoc (pxV_lt _))
    | (refine h.up.set_cd (h.cd.snoc ?_); exact ⟨pxV_lt _, pxV_lt _⟩)
theorem rulesF_ok (h : RtI k r) (p : Ps) : RtI (k + 1) (rulesF r p).2.2.1 := by
  unfold rulesF
  try unfold impS
  try dsimp only
  repeat' refine ite_ok ?_ ?_
  all_goals try dsimp only
  all_goals first
    | exact h.up
    | exact h.same rfl
    | exact ifF_ok h fun _ hx => hx
    | exact ifF_ok h fun _ _ => hoV_lt _
    | exact plF_ok h (pxV_lt _)
    | exact clF_ok h
    | exact ruF_ok h fun _ hx => hx
    | exact ruF_ok h fun _ hx => ⟨(wiV_lt _).1, (wiV_lt _).2, hx.2.2.1, hx.2.2.2⟩
    | exact ruF_ok h fun _ hx => ⟨hx.1, hx.2.1, (wiV_lt _).1, (wiV_lt _).2⟩
    | exact stF_ok h fun _ hx => hx
    | exact stF_ok h fun _ hx => ⟨hx.1, adV_lt _⟩
    | exact nbF_ok h fun _ hx => hx
    | exact h.up.set_ifs (h.ifs.snoc z32)
    | exact new_lists h _ _
    | exact new_maps h _ _
    | exact new_acls h _ _
    | exact h.up.set_maps (h.maps.last (fun _ hl => LF.snoc hl trivial) fun _ hl => LF.up hl)
    | exact h.up.set_acls (h.acls.last (fun _ hl => LF.snoc hl ⟨z32, (by decide), z32, (by decide)⟩) fun _ hl => LF.up hl)
    | exact h.up.set_nat (h.nat.snoc (natF_fit _))
    | exact h.up.set_stat (h.stat.snoc ⟨pxV_lt _, z32⟩)
    | exact h.up.set_ranges (h.ranges.snoc (pxV_lt _))
    | exact h.up.set_lsRed (h.lsRed.snoc trivial)
    | exact h.up.set_dvRed (h.dvRed.snoc trivial)
    | exact h.up.set_pvRed (h.pvRed.snoc trivial)
    | exact h.up.set_nb (h.nb.snoc (adV_lt _))
    | exact h.up.set_net (h.net.snoc (pxV_lt _))
    | exact h.up.set_ag (h.ag.snoc (pxV_lt _))
    | (refine h.up.set_cd (h.cd.snoc ?_); exact ⟨pxV_lt _, pxV_lt _⟩)
theorem ruleF_ok (h : RtI k r) (p : Ps) : RtI (k + 1) (ruleF r p).2.2.1 := by
  unfold ruleF
  try unfold impS
  try dsimp only
  repeat' refine ite_ok ?_ ?_
  all_goals try dsimp only
  all_goals first
    | exact h.up
    | exact h.same rfl
    | exact ifF_ok h fun _ hx => hx
    | exact ifF_ok h fun _ _ => hoV_lt _
    | exact plF_ok h (pxV_lt _)
    | exact clF_ok h
    | exact ruF_ok h fun _ hx => hx
    | exact ruF_ok h fun _ hx => ⟨(wiV_lt _).1, (wiV_lt _).2, hx.2.2.1, hx.2.2.2⟩
    | exact ruF_ok h fun _ hx => ⟨hx.1, hx.2.1, (wiV_lt _).1, (wiV_lt _).2⟩
    | exact stF_ok h fun _ hx => hx
    | exact stF_ok h fun _ hx => ⟨hx.1, adV_lt _⟩
    | exact nbF_ok h fun _ hx => hx
    | exact h.up.set_ifs (h.ifs.snoc z32)
    | exact new_lists h _ _
    | exact new_maps h _ _
    | exact new_acls h _ _
    | exact h.up.set_maps (h.maps.last (fun _ hl => LF.snoc hl trivial) fun _ hl => LF.up hl)
    | exact h.up.set_acls (h.acls.last (fun _ hl => LF.snoc hl ⟨z32, (by decide), z32, (by decide)⟩) fun _ hl => LF.up hl)
    | exact h.up.set_nat (h.nat.snoc (natF_fit _))
    | exact h.up.set_stat (h.stat.snoc ⟨pxV_lt _, z32⟩)
    | exact h.up.set_ranges (h.ranges.snoc (pxV_lt _))
    | exact h.up.set_lsRed (h.lsRed.snoc trivial)
    | exact h.up.set_dvRed (h.dvRed.snoc trivial)
    | exact h.up.set_pvRed (h.pvRed.snoc trivial)
    | exact h.up.set_nb (h.nb.snoc (adV_lt _))
    | exact h.up.set_net (h.net.snoc (pxV_lt _))
    | exact h.up.set_ag (h.ag.snoc (pxV_lt _))
    | (refine h.up.set_cd (h.cd.snoc ?_); exact ⟨pxV_lt _, pxV_lt _⟩)
theorem translationsF_ok (h : RtI k r) (p : Ps) : RtI (k + 1) (translationsF r p).2.2.1 := by
  unfold translationsF
  try unfold impS
  try dsimp only
  repeat' refine ite_ok ?_ ?_
  all_goals try dsimp only
  all_goals first
    | exact h.up
    | exact h.same rfl
    | exact ifF_ok h fun _ hx => hx
    | exact ifF_ok h fun _ _ => hoV_lt _
    | exact plF_ok h (pxV_lt _)
    | exact clF_ok h
    | exact ruF_ok h fun _ hx => hx
    | exact ruF_ok h fun _ hx => ⟨(wiV_lt _).1, (wiV_lt _).2, hx.2.2.1, hx.2.2.2⟩
    | exact ruF_ok h fun _ hx => ⟨hx.1, hx.2.1, (wiV_lt _).1, (wiV_lt _).2⟩
    | exact stF_ok h fun _ hx => hx
    | exact stF_ok h fun _ hx => ⟨hx.1, adV_lt _⟩
    | exact nbF_ok h fun _ hx => hx
    | exact h.up.set_ifs (h.ifs.snoc z32)
    | exact new_lists h _ _
    | exact new_maps h _ _
    | exact new_acls h _ _
    | exact h.up.set_maps (h.maps.last (fun _ hl => LF.snoc hl trivial) fun _ hl => LF.up hl)
    | exact h.up.set_acls (h.acls.last (fun _ hl => LF.snoc hl ⟨z32, (by decide), z32, (by decide)⟩) fun _ hl => LF.up hl)
    | exact h.up.set_nat (h.nat.snoc (natF_fit _))
    | exact h.up.set_stat (h.stat.snoc ⟨pxV_lt _, z32⟩)
    | exact h.up.set_ranges (h.ranges.snoc (pxV_lt _))
    | exact h.up.set_lsRed (h.lsRed.snoc trivial)
    | exact h.up.set_dvRed (h.dvRed.snoc trivial)
    | exact h.up.set_pvRed (h.pvRed.snoc trivial)
    | exact h.up.set_nb (h.nb.snoc (adV_lt _))
    | exact h.up.set_net (h.net.snoc (pxV_lt _))
    | exact h.up.set_ag (h.ag.snoc (pxV_lt _))
    | (refine h.up.set_cd (h.cd.snoc ?_); exact ⟨pxV_lt _, pxV_lt _⟩)
theorem staticsF_ok (h : RtI k r) (p : Ps) : RtI (k + 1) (staticsF r p).2.2.1 := by
  unfold staticsF
  try unfold impS
  try dsimp only
  repeat' refine ite_ok ?_ ?_
  all_goals try dsimp only
  all_goals first
    | exact h.up
    | exact h.same rfl
    | exact ifF_ok h fun _ hx => hx
    | exact ifF_ok h fun _ _ => hoV_lt _
    | exact plF_ok h (pxV_lt _)
    | exact clF_ok h
    | exact ruF_ok h fun _ hx => hx
    | exact ruF_ok h fun _ hx => ⟨(wiV_lt _).1, (wiV_lt _).2, hx.2.2.1, hx.2.2.2⟩
    | exact ruF_ok h fun _ hx => ⟨hx.1, hx.2.1, (wiV_lt _).1, (wiV_lt _).2⟩
    | exact stF_ok h fun _ hx => hx
    | exact stF_ok h fun _ hx => ⟨hx.1, adV_lt _⟩
    | exact nbF_ok h fun _ hx => hx
    | exact h.up.set_ifs (h.ifs.snoc z32)
    | exact new_lists h _ _
    | exact new_maps h _ _
    | exact new_acls h _ _
    | exact h.up.set_maps (h.maps.last (fun _ hl => LF.snoc hl trivial) fun _ hl => LF.up hl)
    | exact h.up.set_acls (h.acls.last (fun _ hl => LF.snoc hl ⟨z32, (by decide), z32, (by decide)⟩) fun _ hl => LF.up hl)
    | exact h.up.set_nat (h.nat.snoc (natF_fit _))
    | exact h.up.set_stat (h.stat.snoc ⟨pxV_lt _, z32⟩)
    | exact h.up.set_ranges (h.ranges.snoc (pxV_lt _))
    | exact h.up.set_lsRed (h.lsRed.snoc trivial)
    | exact h.up.set_dvRed (h.dvRed.snoc trivial)
    | exact h.up.set_pvRed (h.pvRed.snoc trivial)
    | exact h.up.set_nb (h.nb.snoc (adV_lt _))
    | exact h.up.set_net (h.net.snoc (pxV_lt _))
    | exact h.up.set_ag (h.ag.snoc (pxV_lt _))
    | (refine h.up.set_cd (h.cd.snoc ?_); exact ⟨pxV_lt _, pxV_lt _⟩)
theorem staticF_ok (h : RtI k r) (p : Ps) : RtI (k + 1) (staticF r p).2.2.1 := by
  unfold staticF
  try unfold impS
  try dsimp only
  repeat' refine ite_ok ?_ ?_
  all_goals try dsimp only
  all_goals first
    | exact h.up
    | exact h.same rfl
    | exact ifF_ok h fun _ hx => hx
    | exact ifF_ok h fun _ _ => hoV_lt _
    | exact plF_ok h (pxV_lt _)
    | exact clF_ok h
    | exact ruF_ok h fun _ hx => hx
    | exact ruF_ok h fun _ hx => ⟨(wiV_lt _).1, (wiV_lt _).2, hx.2.2.1, hx.2.2.2⟩
    | exact ruF_ok h fun _ hx => ⟨hx.1, hx.2.1, (wiV_lt _).1, (wiV_lt _).2⟩
    | exact stF_ok h fun _ hx => hx
    | exact stF_ok h fun _ hx => ⟨hx.1, adV_lt _⟩
    | exact nbF_ok h fun _ hx => hx
    | exact h.up.set_ifs (h.ifs.snoc z32)
    | exact new_lists h _ _
    | exact new_maps h _ _
    | exact new_acls h _ _
    | exact h.up.set_maps (h.maps.last (fun _ hl => LF.snoc hl trivial) fun _ hl => LF.up hl)
    | exact h.up.set_acls (h.acls.last (fun _ hl => LF.snoc hl ⟨z32, (by decide), z32, (by decide)⟩) fun _ hl => LF.up hl)
    | exact h.up.set_nat (h.nat.snoc (natF_fit _))
    | exact h.up.set_stat (h.stat.snoc ⟨pxV_lt _, z32⟩)
    | exact h.up.set_ranges (h.ranges.snoc (pxV_lt _))
    | exact h.up.set_lsRed (h.lsRed.snoc trivial)
    | exact h.up.set_dvRed (h.dvRed.snoc trivial)
    | exact h.up.set_pvRed (h.pvRed.snoc trivial)
    | exact h.up.set_nb (h.nb.snoc (adV_lt _))
    | exact h.up.set_net (h.net.snoc (pxV_lt _))
    | exact h.up.set_ag (h.ag.snoc (pxV_lt _))
    | (refine h.up.set_cd (h.cd.snoc ?_); exact ⟨pxV_lt _, pxV_lt _⟩)
theorem linkStateF_ok (blk : Bool) (h : RtI k r) (p : Ps) : RtI (k + 1) (linkStateF blk r p).2.2.1 := by
  unfold linkStateF
  try unfold impS
  try dsimp only
  repeat' refine ite_ok ?_ ?_
  all_goals try dsimp only
  all_goals first
    | exact h.up
    | exact h.same rfl
    | exact ifF_ok h fun _ hx => hx
    | exact ifF_ok h fun _ _ => hoV_lt _
    | exact plF_ok h (pxV_lt _)
    | exact clF_ok h
    | exact ruF_ok h fun _ hx => hx
    | exact ruF_ok h fun _ hx => ⟨(wiV_lt _).1, (wiV_lt _).2, hx.2.2.1, hx.2.2.2⟩
    | exact ruF_ok h fun _ hx => ⟨hx.1, hx.2.1, (wiV_lt _).1, (wiV_lt _).2⟩
    | exact stF_ok h fun _ hx => hx
    | exact stF_ok h fun _ hx => ⟨hx.1, adV_lt _⟩
    | exact nbF_ok h fun _ hx => hx
    | exact h.up.set_ifs (h.ifs.snoc z32)
    | exact new_lists h _ _
    | exact new_maps h _ _
    | exact new_acls h _ _
    | exact h.up.set_maps (h.maps.last (fun _ hl => LF.snoc hl trivial) fun _ hl => LF.up hl)
    | exact h.up.set_acls (h.acls.last (fun _ hl => LF.snoc hl ⟨z32, (by decide), z32, (by decide)⟩) fun _ hl => LF.up hl)
    | exact h.up.set_nat (h.nat.snoc (natF_fit _))
    | exact h.up.set_stat (h.stat.snoc ⟨pxV_lt _, z32⟩)
    | exact h.up.set_ranges (h.ranges.snoc (pxV_lt _))
    | exact h.up.set_lsRed (h.lsRed.snoc trivial)
    | exact h.up.set_dvRed (h.dvRed.snoc trivial)
    | exact h.up.set_pvRed (h.pvRed.snoc trivial)
    | exact h.up.set_nb (h.nb.snoc (adV_lt _))
    | exact h.up.set_net (h.net.snoc (pxV_lt _))
    | exact h.up.set_ag (h.ag.snoc (pxV_lt _))
    | (refine h.up.set_cd (h.cd.snoc ?_); exact ⟨pxV_lt _, pxV_lt _⟩)
theorem distanceF_ok (blk : Bool) (h : RtI k r) (p : Ps) : RtI (k + 1) (distanceF blk r p).2.2.1 := by
  unfold distanceF
  try unfold impS
  try dsimp only
  repeat' refine ite_ok ?_ ?_
  all_goals try dsimp only
  all_goals first
    | exact h.up
    | exact h.same rfl
    | exact ifF_ok h fun _ hx => hx
    | exact ifF_ok h fun _ _ => hoV_lt _
    | exact plF_ok h (pxV_lt _)
    | exact clF_ok h
    | exact ruF_ok h fun _ hx => hx
    | exact ruF_ok h fun _ hx => ⟨(wiV_lt _).1, (wiV_lt _).2, hx.2.2.1, hx.2.2.2⟩
    | exact ruF_ok h fun _ hx => ⟨hx.1, hx.2.1, (wiV_lt _).1, (wiV_lt _).2⟩
    | exact stF_ok h fun _ hx => hx
    | exact stF_ok h fun _ hx => ⟨hx.1, adV_lt _⟩
    | exact nbF_ok h fun _ hx => hx
    | exact h.up.set_ifs (h.ifs.snoc z32)
    | exact new_lists h _ _
    | exact new_maps h _ _
    | exact new_acls h _ _
    | exact h.up.set_maps (h.maps.last (fun _ hl => LF.snoc hl trivial) fun _ hl => LF.up hl)
    | exact h.up.set_acls (h.acls.last (fun _ hl => LF.snoc hl ⟨z32, (by decide), z32, (by decide)⟩) fun _ hl => LF.up hl)
    | exact h.up.set_nat (h.nat.snoc (natF_fit _))
    | exact h.up.set_stat (h.stat.snoc ⟨pxV_lt _, z32⟩)
    | exact h.up.set_ranges (h.ranges.snoc (pxV_lt _))
    | exact h.up.set_lsRed (h.lsRed.snoc trivial)
    | exact h.up.set_dvRed (h.dvRed.snoc trivial)
    | exact h.up.set_pvRed (h.pvRed.snoc trivial)
    | exact h.up.set_nb (h.nb.snoc (adV_lt _))
    | exact h.up.set_net (h.net.snoc (pxV_lt _))
    | exact h.up.set_ag (h.ag.snoc (pxV_lt _))
    | (refine h.up.set_cd (h.cd.snoc ?_); exact ⟨pxV_lt _, pxV_lt _⟩)
theorem pathF_ok (blk : Bool) (h : RtI k r) (p : Ps) : RtI (k + 1) (pathF blk r p).2.2.1 := by
  unfold pathF
  try unfold impS
  try dsimp only
  repeat' refine ite_ok ?_ ?_
  all_goals try dsimp only
  all_goals first
    | exact h.up
    | exact h.same rfl
    | exact ifF_ok h fun _ hx => hx
    | exact ifF_ok h fun _ _ => hoV_lt _
    | exact plF_ok h (pxV_lt _)
    | exact clF_ok h
    | exact ruF_ok h fun _ hx => hx
    | exact ruF_ok h fun _ hx => ⟨(wiV_lt _).1, (wiV_lt _).2, hx.2.2.1, hx.2.2.2⟩
    | exact ruF_ok h fun _ hx => ⟨hx.1, hx.2.1, (wiV_lt _).1, (wiV_lt _).2⟩
    | exact stF_ok h fun _ hx => hx
    | exact stF_ok h fun _ hx => ⟨hx.1, adV_lt _⟩
    | exact nbF_ok h fun _ hx => hx
    | exact h.up.set_ifs (h.ifs.snoc z32)
    | exact new_lists h _ _
    | exact new_maps h _ _
    | exact new_acls h _ _
    | exact h.up.set_maps (h.maps.last (fun _ hl => LF.snoc hl trivial) fun _ hl => LF.up hl)
    | exact h.up.set_acls (h.acls.last (fun _ hl => LF.snoc hl ⟨z32, (by decide), z32, (by decide)⟩) fun _ hl => LF.up hl)
    | exact h.up.set_nat (h.nat.snoc (natF_fit _))
    | exact h.up.set_stat (h.stat.snoc ⟨pxV_lt _, z32⟩)
    | exact h.up.set_ranges (h.ranges.snoc (pxV_lt _))
    | exact h.up.set_lsRed (h.lsRed.snoc trivial)
    | exact h.up.set_dvRed (h.dvRed.snoc trivial)
    | exact h.up.set_pvRed (h.pvRed.snoc trivial)
    | exact h.up.set_nb (h.nb.snoc (adV_lt _))
    | exact h.up.set_net (h.net.snoc (pxV_lt _))
    | exact h.up.set_ag (h.ag.snoc (pxV_lt _))
    | (refine h.up.set_cd (h.cd.snoc ?_); exact ⟨pxV_lt _, pxV_lt _⟩)
theorem neighborF_ok (h : RtI k r) (p : Ps) : RtI (k + 1) (neighborF r p).2.2.1 := by
  unfold neighborF
  try unfold impS
  try dsimp only
  repeat' refine ite_ok ?_ ?_
  all_goals try dsimp only
  all_goals first
    | exact h.up
    | exact h.same rfl
    | exact ifF_ok h fun _ hx => hx
    | exact ifF_ok h fun _ _ => hoV_lt _
    | exact plF_ok h (pxV_lt _)
    | exact clF_ok h
    | exact ruF_ok h fun _ hx => hx
    | exact ruF_ok h fun _ hx => ⟨(wiV_lt _).1, (wiV_lt _).2, hx.2.2.1, hx.2.2.2⟩
    | exact ruF_ok h fun _ hx => ⟨hx.1, hx.2.1, (wiV_lt _).1, (wiV_lt _).2⟩
    | exact stF_ok h fun _ hx => hx
    | exact stF_ok h fun _ hx => ⟨hx.1, adV_lt _⟩
    | exact nbF_ok h fun _ hx => hx
    | exact h.up.set_ifs (h.ifs.snoc z32)
    | exact new_lists h _ _
    | exact new_maps h _ _
    | exact new_acls h _ _
    | exact h.up.set_maps (h.maps.last (fun _ hl => LF.snoc hl trivial) fun _ hl => LF.up hl)
    | exact h.up.set_acls (h.acls.last (fun _ hl => LF.snoc hl ⟨z32, (by decide), z32, (by decide)⟩) fun _ hl => LF.up hl)
    | exact h.up.set_nat (h.nat.snoc (natF_fit _))
    | exact h.up.set_stat (h.stat.snoc ⟨pxV_lt _, z32⟩)
    | exact h.up.set_ranges (h.ranges.snoc (pxV_lt _))
    | exact h.up.set_lsRed (h.lsRed.snoc trivial)
    | exact h.up.set_dvRed (h.dvRed.snoc trivial)
    | exact h.up.set_pvRed (h.pvRed.snoc trivial)
    | exact h.up.set_nb (h.nb.snoc (adV_lt _))
    | exact h.up.set_net (h.net.snoc (pxV_lt _))
    | exact h.up.set_ag (h.ag.snoc (pxV_lt _))
    | (refine h.up.set_cd (h.cd.snoc ?_); exact ⟨pxV_lt _, pxV_lt _⟩)
theorem fmS_ok (f : Fm) (blk : Bool) (h : RtI k r) (p : Ps) : RtI (k + 1) (fmS f blk r p).2.2.1 := by
  cases f
  · exact topF_ok h p
  · exact systemF_ok h p
  · exact interfacesF_ok h p
  · exact ifaceF_ok h p
  · exact prefixRulesF_ok h p
  · exact clausesF_ok h p
  · exact clauseF_ok h p
  · exact rulesF_ok h p
  · exact ruleF_ok h p
  · exact translationsF_ok h p
  · exact staticsF_ok h p
  · exact staticF_ok h p
  · exact linkStateF_ok blk h p
  · exact distanceF_ok blk h p
  · exact pathF_ok blk h p
  · exact neighborF_ok h p
  · show RtI (k + 1) (redF' _ _ r p).2.2.1
    unfold redF'
    repeat' refine ite_ok ?_ ?_
    all_goals first
      | exact h.up
      | exact h.up.set_lsRed (h.lsRed.last (fun _ _ => trivial) fun _ _ => trivial)
  · show RtI (k + 1) (redF' _ _ r p).2.2.1
    unfold redF'
    repeat' refine ite_ok ?_ ?_
    all_goals first
      | exact h.up
      | exact h.up.set_dvRed (h.dvRed.last (fun _ _ => trivial) fun _ _ => trivial)
  · show RtI (k + 1) (redF' _ _ r p).2.2.1
    unfold redF'
    repeat' refine ite_ok ?_ ?_
    all_goals first
      | exact h.up
      | exact h.up.set_pvRed (h.pvRed.last (fun _ _ => trivial) fun _ _ => trivial)
end
mutual
/-- How many nodes there are. -/
def Nd.size : Nd → Nat
  | .mk _ _ _ k => 1 + sizeL k
def sizeL : List Nd → Nat
  | [] => 0
  | n :: ns => n.size + sizeL ns
end
theorem RtI.le {k j : Nat} {r : Rt} (h : RtI k r) (hk : k ≤ j) : RtI j r := by
  induction hk with
  | refl => exact h
  | step _ ih => exact ih.up
mutual
theorem readN_ok (f : Fm) : ∀ (ns : List Nd) (keys : List (List UInt8)) (r : Rt) (k : Nat), RtI k r → RtI (k + sizeL ns) (readN f keys ns r).1
  | [], _, _, _, h => h
  | n :: ns, keys, r, k, h => by
    have h1 := readOne_ok f n keys r k h
    simp only [readN, sizeL]
    revert h1
    match readOne f keys n r with
    | (r', k', none) => intro h1; have := readN_ok f ns k' r' _ h1; rwa [Nat.add_assoc] at this
    | (r', _, some e) => intro h1; exact h1.le (by omega)
theorem readOne_ok (f : Fm) : ∀ (n : Nd) (keys : List (List UInt8)) (r : Rt) (k : Nat), RtI k r → RtI (k + n.size) (readOne f keys n r).1
  | .mk line words blk kids, keys, r, k, h => by
    have h1 := fmS_ok f blk h ⟨words, false⟩
    simp only [readOne, Nd.size]
    revert h1
    match fmS f blk r ⟨words, false⟩ with
    | (key, inner, r', p) =>
      intro h1
      have h2 : RtI (k + (1 + sizeL kids)) r' := RtI.le h1 (by omega)
      simp only
      split
      · exact h2
      · split
        · exact h2
        · cases inner with
          | none => exact h2
          | some g =>
            have := readN_ok g kids [] r' _ h1
            rwa [Nat.add_assoc] at this
end
theorem rtN_ok : RtI 0 rtN := ⟨LF.nil, LF.nil, LF.nil, LF.nil, LF.nil, LF.nil, LF.nil, LF.nil, LF.nil, LF.nil, LF.nil, LF.nil, LF.nil, LF.nil⟩
end Go.Proofs.YtmddfkpkddemnaaGreatDoor
namespace Go.Proofs.YtmddfkpkddemnaaGreatDoor
open Go.RowKit
/-- The blocks of owned rows. -/
def blks (rs : List Orow) : List Nat := rs.filterMap (·.v.ownBlock)
theorem blks_append (a b : List Orow) : blks (a ++ b) = blks a ++ blks b := List.filterMap_append
/-- A slice as a row that is owned. -/
def rowE {α : Type} (T : TypeId) (n : Nat) (cells : α → Array Value) (v : Value) (l : List α) : Orow := ⟨T, n, v, l.length, l.flatMap fun x => (cells x).toList⟩
theorem rowE_own {α : Type} {w : World} {B : Nat} {T : TypeId} {n : Nat} {cells : α → Array Value} {v : Value} {l : List α} : (rowE T n cells v l).own w B ↔ OwnE w B T n cells v l := Iff.rfl
/-- Some of the rows turned in their own blocks or new ones, or made anew. -/
theorem OwnAll.swap {w w' : World} {B : Nat} {pre X X' post : List Orow} {rs : List Nat} (h : OwnAll w B (pre ++ X ++ post)) (hf : Fr rs w w') (ho : OwnAll w' B X') (hn : ∀ k ∈ blks X', k ∈ blks X ∨ w.heap.size ≤ k)
    (hr : ∀ k ∈ rs, k ∉ blks pre ∧ k ∉ blks post) : OwnAll w' B (pre ++ X' ++ post) := by
  have hd := h.2
  rw [List.filterMap_append, List.filterMap_append] at hd
  have hlt : ∀ k, k ∈ blks pre ∨ k ∈ blks post → k < w.heap.size := by
    intro k hk
    refine (OwnAll.lt h ?_).1
    rw [List.filterMap_append, List.filterMap_append]
    rcases hk with hk | hk
    · exact List.mem_append_left _ (List.mem_append_left _ hk)
    · exact List.mem_append_right _ hk
  refine ⟨fun r hr' => ?_, ?_⟩
  · rcases List.mem_append.1 hr' with h1 | h1
    · rcases List.mem_append.1 h1 with h2 | h2
      · exact Orow.own.fr (h.1 r (List.mem_append_left _ (List.mem_append_left _ h2))) hf (fun g hg hm => (hr g hm).1 (List.mem_filterMap.2 ⟨r, h2, hg⟩))
      · exact ho.1 r h2
    · exact Orow.own.fr (h.1 r (List.mem_append_right _ h1)) hf (fun g hg hm => (hr g hm).2 (List.mem_filterMap.2 ⟨r, h1, hg⟩))
  · rw [List.filterMap_append, List.filterMap_append]
    have h1 := List.nodup_append.1 hd
    have h2 := List.nodup_append.1 h1.1
    refine List.nodup_append.2 ⟨List.nodup_append.2 ⟨h2.1, ho.2, fun a ha b hb e => ?_⟩, h1.2.1, fun a ha b hb e => ?_⟩
    · subst e
      rcases hn a hb with hx | hx
      · exact h2.2.2 a ha a hx rfl
      · have := hlt a (.inl ha); omega
    · subst e
      rcases List.mem_append.1 ha with ha | ha
      · exact h1.2.2 a (List.mem_append_left _ ha) a hb rfl
      · rcases hn a ha with hx | hx
        · exact h1.2.2 a (List.mem_append_right _ hx) a hb rfl
        · have := hlt a (.inr hb); omega
/-- The rows of the reader's slices. -/
def rP (x : PList) : Orow := rowE 105 5 PRule.C x.v x.rules
def rM (x : RMap) : Orow := rowE 110 7 Cl.C x.v x.clauses
def rA (x : AList) : Orow := rowE 119 10 Ru.C x.v x.rules
def btR (r : Rt) : List Orow :=
  rowE 67 12 If.C r.ifsV r.ifs :: rowE 69 9 Tr.C r.natV r.nat :: rowE 73 7 Sr.C r.statV r.stat :: rowE 122 3 AR.C r.rangesV r.ranges :: rowE 192 5 Rd.C r.lsRedV r.lsRed :: rowE 192 5 Rd.C r.dvRedV r.dvRed :: rowE 124 4 Nb.C r.nbV r.nb :: rowE 71 2 Pf.C r.netV r.net :: rowE 126 3 Ag.C r.agV r.ag :: rowE 128 5 Cd.C r.cdV r.cd :: rowE 192 5 Rd.C r.pvRedV r.pvRed ::
  rowE 103 2 PList.C r.listsV r.lists :: rowE 108 2 RMap.C r.mapsV r.maps :: rowE 113 2 AList.C r.aclsV r.acls :: (r.lists.map rP ++ (r.maps.map rM ++ r.acls.map rA))
/-- Blocks that lie beside the reader and stay as they are. -/
abbrev Kept := List (Nat × Obj)
/-- Beta's reader in block g: its router is r; of what is older than w0 nothing below block B has turned. -/
structure BR (g B : Nat) (w0 : World) (r : Rt) (K : Kept) (w : World) : Prop where
  has : HasC 90 g r.C w
  own : OwnAll w B (btR r)
  bel : Below B w0 w
  bB : B ≤ w0.heap.size
  gB : B ≤ g
  gr : g ∉ blks (btR r)
  keep : ∀ k ∈ K, w.heap[k.1]? = some k.2 ∧ k.1 ≠ g ∧ k.1 ∉ blks (btR r)
/-- .. and the words p of a node in block b. -/
structure BW (g B : Nat) (w0 : World) (r : Rt) (K : Kept) (T : TypeId × Bool) (b : Nat) (p : Ps) (w : World) : Prop extends BR g B w0 r K w where
  st : WSt T b B p w
  gb : g ≠ b
  br : b ∉ blks (btR r)
  kb : ∀ k ∈ K, k.1 ≠ b
section
variable {g b B : Nat} {w0 w w' : World} {r r' : Rt} {K K' : Kept} {T : TypeId × Bool} {p p' : Ps} {pre X X' post : List Orow}
theorem BR.size (h : BR g B w0 r K w) : w0.heap.size ≤ w.heap.size := h.bel.size
theorem BR.lt (h : BR g B w0 r K w) : g < w.heap.size := blk_lt h.has
theorem BR.blt (h : BR g B w0 r K w) {k : Nat} (hk : k ∈ blks (btR r)) : k < w.heap.size ∧ B ≤ k := OwnAll.lt h.own hk
theorem BR.env (h : BR g B w0 r K w) (he : EnvA B w0) : EnvA B w := he.keep h.bel
theorem BR.cell (h : BR g B w0 r K w) (j : Nat) : w.cell? ⟨g, j, none⟩ = r.C[j]? := h.has.cell j
theorem BR.frz (h : BR g B w0 r K w) (j : Nat) : w.frozen? ⟨g, j, none⟩ = false := h.has.frz j
theorem BR.less (h : BR g B w0 r K w) (hk : ∀ k ∈ K', k ∈ K) : BR g B w0 r K' w := ⟨h.has, h.own, h.bel, h.bB, h.gB, h.gr, fun k hx => h.keep k (hk k hx)⟩
theorem BW.less (h : BW g B w0 r K T b p w) (hk : ∀ k ∈ K', k ∈ K) : BW g B w0 r K' T b p w := ⟨h.toBR.less hk, h.st, h.gb, h.br, fun k hx => h.kb k (hk k hx)⟩
theorem blks_perm {a c : List Orow} (h : a.Perm c) {k : Nat} : k ∈ blks a ↔ k ∈ blks c := (h.filterMap _).mem_iff
/-- Rows X become X', the struct and the words may turn besides. -/
theorem BW.turn (h : BW g B w0 r K T b p w) (e : (btR r).Perm (X ++ post)) (e' : (btR r').Perm (X' ++ post)) (hf : Fr (g :: b :: blks X) w w') (hh : HasC 90 g r'.C w') (hs : WSt T b B p' w') (ho : OwnAll w' B X')
    (hn : ∀ k ∈ blks X', k ∈ blks X ∨ w.heap.size ≤ k) : BW g B w0 r' K T b p' w' := by
  have hw := h.size
  have hB := h.bB
  have hgr := h.gr
  have hbr := h.br
  have hown := h.own.perm e.symm
  rw [blks_perm e, blks_append] at hgr hbr
  have hd := hown.2
  rw [List.filterMap_append] at hd
  have hX : ∀ k ∈ blks X, k ∈ blks (btR r) := fun k hk => by rw [blks_perm e, blks_append]; exact List.mem_append_left _ hk
  have hgB := h.gB
  have hbB := h.st.1
  have hgl := h.lt
  have hbl := h.st.lt
  have hout : ∀ k, k ∉ blks (btR r) → k < w.heap.size → k ∉ blks (btR r') := by
    intro k hk hl hm
    rw [blks_perm e', blks_append] at hm
    rw [blks_perm e, blks_append] at hk
    rcases List.mem_append.1 hm with hm | hm
    · rcases hn _ hm with e | e
      · exact hk (List.mem_append_left _ e)
      · omega
    · exact hk (List.mem_append_right _ hm)
  refine ⟨⟨hh, ?_, h.bel.trans (hf.below (fun k hk => ?_) (by omega)), h.bB, h.gB, hout g h.gr hgl, fun k hk => ?_⟩, hs, h.gb, hout b h.br hbl, h.kb⟩
  · refine OwnAll.perm ?_ e'
    refine OwnAll.swap (pre := []) hown hf ho hn (fun k hk => ⟨List.not_mem_nil, ?_⟩)
    rcases List.mem_cons.1 hk with e1 | hk
    · subst e1
      exact fun hm => hgr (List.mem_append_right _ hm)
    rcases List.mem_cons.1 hk with e1 | hk
    · subst e1
      exact fun hm => hbr (List.mem_append_right _ hm)
    · exact fun hm => (List.nodup_append.1 hd).2.2 k hk k hm rfl
  · rcases List.mem_cons.1 hk with e1 | hk
    · omega
    rcases List.mem_cons.1 hk with e1 | hk
    · omega
    · exact (h.blt (hX k hk)).2
  · obtain ⟨k1, k2, k3⟩ := h.keep k hk
    refine ⟨(hf.block k.1 (blk_lt k1) (fun hm => ?_)).trans k1, k2, hout k.1 k3 (blk_lt k1)⟩
    rcases List.mem_cons.1 hm with e1 | hm
    · exact k2 e1
    rcases List.mem_cons.1 hm with e1 | hm
    · exact h.kb k hk e1
    · exact k3 (hX _ hm)
/-- Struct and words alone. -/
theorem BW.turn0 (h : BW g B w0 r K T b p w) (e : btR r' = btR r) (hf : Fr [g, b] w w') (hh : HasC 90 g r'.C w') (hs : WSt T b B p' w') : BW g B w0 r' K T b p' w' :=
  h.turn (X := []) (X' := []) (post := btR r) (List.Perm.refl _) (by rw [e]; exact List.Perm.refl _) hf hh hs ⟨fun _ h => (by cases h), List.nodup_nil⟩ (fun _ h => by cases h)
theorem BW.word (h : BW g B w0 r K T b p w) (hs : WSt T b B p' w') (hg : w.grownBy w' (some b)) : BW g B w0 r K T b p' w' :=
  h.turn0 rfl (Fr.ofOne hg (by simp)) (h.has.grown hg (fun e => h.gb (by injection e))) hs
theorem BW.put (h : BW g B w0 r K T b p w) (j : Nat) (v : Value) (e : r.C.setIfInBounds j v = r'.C) (eb : btR r' = btR r) : BW g B w0 r' K T b p (w.setCell ⟨g, j, none⟩ v) :=
  h.turn0 eb (Fr.set w (by simp) j v) (by rw [← e]; exact Lib.heap_setCell_same (i := j) h.has v) (h.st.other (grown_set w g j v) (fun k hk => by cases hk; exact ⟨h.gB, h.gb⟩))
theorem BW.on (h : BW g B w0 r K T b p w) (hb : Below w.heap.size w w') : BW g B w0 r K T b p w' := h.turn0 rfl (Fr.of_below hb) (h.has.keep hb) (h.st.keep hb)
theorem BW.bad (h : BW g B w0 r K T b p w) : BW g B w0 r K T b p.fail (w.setCell ⟨b, 2, none⟩ (.bool true)) := h.word h.st.failed.1 h.st.failed.2
/-- A new block is kept. -/
theorem BW.box (h : BW g B w0 r K T b p w) (o : Obj) : BW g B w0 r ((w.heap.size, o) :: K) T b p (w.alloc o) := by
  have hb : Below w.heap.size w (w.alloc o) := (Below.refl _ w).alloc (Nat.le_refl _) o
  have h1 := h.on hb
  refine ⟨⟨h1.has, h1.own, h1.bel, h1.bB, h1.gB, h1.gr, fun k hk => ?_⟩, h1.st, h1.gb, h1.br, fun k hk => ?_⟩
  · rcases List.mem_cons.1 hk with rfl | hk
    · exact ⟨heap_alloc_new w o, Nat.ne_of_gt h.lt, fun hm => Nat.lt_irrefl _ (h.blt hm).1⟩
    · exact h1.keep k hk
  · rcases List.mem_cons.1 hk with rfl | hk
    · exact Nat.ne_of_gt h.st.lt
    · exact h1.kb k hk
end
end Go.Proofs.YtmddfkpkddemnaaGreatDoor
namespace Go.Proofs.YtmddfkpkddemnaaGreatDoor
open Go.RowKit
/-- Behind some steps since w0: the struct (from o on in block g) holds cs, the words are p, no other old block has turned; the blocks K lie beside them. -/
structure Ck (E : TypeId) (g o : Nat) (cur : Array Value) (T : TypeId × Bool) (b B : Nat) (K : Kept) (w0 : World) (cs : Array Value) (p : Ps) (w : World) : Prop where
  part : Part E g o cur cs w
  st : WSt T b B p w
  fr : Fr [g, b] w0 w
  gb : g ≠ b
  gB : B ≤ g
  bB : B ≤ w0.heap.size
  keep : ∀ k ∈ K, w.heap[k.1]? = some k.2 ∧ k.1 ≠ g ∧ k.1 ≠ b
section
variable {E U : TypeId} {T : TypeId × Bool} {g o b B k : Nat} {cur cs : Array Value} {p p' : Ps} {w0 w w' : World} {K : Kept} {v : Value} {x : Nat × Obj}
theorem Ck.fr1 (h : Ck E g o cur T b B K w0 cs p w) (hf : Fr [g, b] w w') : ∀ k ∈ K, w'.heap[k.1]? = some k.2 ∧ k.1 ≠ g ∧ k.1 ≠ b := fun k hk => by
  obtain ⟨h1, h2, h3⟩ := h.keep k hk
  refine ⟨(hf.block k.1 (blk_lt h1) (fun hm => ?_)).trans h1, h2, h3⟩
  simp only [List.mem_cons, List.not_mem_nil, or_false] at hm
  exact hm.elim h2 h3
theorem Ck.put (h : Ck E g o cur T b B K w0 cs p w) {cs' : Array Value} {j : Nat} (hj : j < cs.size) (v : Value) (e : cs.setIfInBounds j v = cs') : Ck E g o cur T b B K w0 cs' p (w.setCell ⟨g, o + j, none⟩ v) :=
  ⟨h.part.put hj v e, h.st.other (grown_set w g (o + j) v) (fun k hk => by cases hk; exact ⟨h.gB, h.gb⟩), h.fr.trans (Fr.set w (by simp) _ _), h.gb, h.gB, h.bB, h.fr1 (Fr.set w (by simp) _ _)⟩
theorem Ck.word (h : Ck E g o cur T b B K w0 cs p w) (hs : WSt T b B p' w') (hg : w.grownBy w' (some b)) : Ck E g o cur T b B K w0 cs p' w' :=
  ⟨h.part.frame hg (fun e => h.gb (by injection e with e; exact e.symm)), hs, h.fr.trans (Fr.ofOne hg (by simp)), h.gb, h.gB, h.bB, h.fr1 (Fr.ofOne hg (by simp))⟩
theorem Ck.drew (h : Ck E g o cur T b B K w0 cs p w) : Ck E g o cur T b B K w0 cs p w.drew := ⟨h.part, h.st, h.fr.trans (Fr.of_below ⟨rfl, rfl, rfl, Nat.le_refl _, fun _ _ => rfl⟩), h.gb, h.gB, h.bB, h.keep⟩
theorem set_other {W : World} {q j : Nat} {u v : Value} (hq : k ≠ q) (hc : W.cell? ⟨k, 0, none⟩ = some u) : (W.setCell ⟨q, j, none⟩ v).cell? ⟨k, 0, none⟩ = some u :=
  (grown_set W q j v).cell (a := ⟨k, 0, none⟩) hc (fun e => hq (by injection e))
theorem Ck.bad (h : Ck E g o cur T b B K w0 cs p w) : Ck E g o cur T b B K w0 cs p.fail (w.setCell ⟨b, 2, none⟩ (.bool true)) := h.word h.st.failed.1 h.st.failed.2
theorem Ck.cell (h : Ck E g o cur T b B K w0 cs p w) {j : Nat} (hj : j < cs.size) : ∃ v, w.cell? ⟨g, o + j, none⟩ = some v := ⟨cs[j], by rw [h.part.cell hj, Array.getElem?_eq_getElem hj]⟩
theorem Ck.frz (h : Ck E g o cur T b B K w0 cs p w) (j : Nat) : w.frozen? ⟨g, o + j, none⟩ = false := h.part.frz _
theorem Ck.env (h : Ck E g o cur T b B K w0 cs p w) (he : EnvA B w0) : EnvA B w :=
  he.keep (h.fr.below (fun k hk => by
    have hb := h.st.1
    have hg := h.gB
    simp only [List.mem_cons, List.not_mem_nil, or_false] at hk
    rcases hk with rfl | rfl <;> assumption) h.bB)
theorem Ck.kc (h : Ck E g o cur T b B ((k, .cells #[v] U (0, 0)) :: K) w0 cs p w) : w.cell? ⟨k, 0, none⟩ = some v := by
  rw [Lib.cell_of_heap (h.keep _ List.mem_cons_self).1]; rfl
theorem Ck.kc2 (h : Ck E g o cur T b B (x :: (k, .cells #[v] U (0, 0)) :: K) w0 cs p w) : w.cell? ⟨k, 0, none⟩ = some v := by
  rw [Lib.cell_of_heap (h.keep _ (List.mem_cons_of_mem _ List.mem_cons_self)).1]; rfl
end
/-- What a form that turns one struct answers: its key, no form; the struct is f's, the words p'. -/
def FPost {α : Type} (F : Rt → Ps → FmR) (mk : (α → α) → Rt → Rt) (C : α → Array Value) (x : α) (E : TypeId) (g o : Nat) (cur : Array Value) (T : TypeId × Bool) (b B : Nat) (K : Kept) (w0 : World) (p : Ps) (e : Ending) (w : World) : Prop :=
  ∃ key f p', (∀ r, F r p = (key, none, mk f r, p')) ∧ e = .returned (.tuple #[strV key, .nilFunc]) ∧ Ck E g o cur T b B K w0 (C (f x)) p' w
theorem lastF_id {α : Type} : ∀ l : List α, lastF (fun x => x) l = l
  | [] => rfl
  | [_] => rfl
  | x :: y :: r => by
    rw [lastF]
    · rw [lastF_id (y :: r)]
    · intro h; cases h
theorem ifF_id (r : Rt) : ifF (fun x => x) r = r := by unfold ifF; rw [lastF_id]
theorem map_id_last {α : Type} (f : α → α) (hf : ∀ x, f x = x) (l : List α) : lastF f l = l := by
  obtain rfl : f = fun x => x := funext hf
  exact lastF_id l
theorem clF_id (r : Rt) : clF (fun x => x) r = r := by unfold clF; rw [map_id_last _ (fun m => by rw [lastF_id])]
theorem ruF_id (r : Rt) : ruF (fun x => x) r = r := by unfold ruF; rw [map_id_last _ (fun m => by rw [lastF_id])]
theorem stF_id (r : Rt) : stF (fun x => x) r = r := by unfold stF; rw [lastF_id]
theorem nbF_id (r : Rt) : nbF' (fun x => x) r = r := by unfold nbF'; rw [lastF_id]
theorem short_opt {p : Ps} (x : List UInt8) (h : p.short) : (optS x p).short := by
  unfold optS; split
  · exact fun f hf => h f (List.mem_of_mem_tail hf)
  · exact h
theorem short_wS {p : Ps} (h : p.short) : (wS p).short := by
  obtain ⟨fs, bad⟩ := p
  cases fs with
  | nil => exact h
  | cons f r => exact fun x hx => h x (List.mem_cons_of_mem _ hx)
theorem short_must {p : Ps} (c : Bool) (h : p.short) : (mustS c p).short := by
  unfold mustS; split <;> exact h
theorem short_px {p : Ps} (h : p.short) : (pxS p).short := short_must _ (short_wS h)
theorem short_ad {p : Ps} (h : p.short) : (adS p).short := short_must _ (short_wS h)
theorem short_nm {p : Ps} (h : p.short) : (nmS p).short := short_must _ (short_wS h)
theorem short_no {p : Ps} (lo hi : Int) (h : p.short) : (noS lo hi p).short := short_must _ (short_wS h)
theorem short_ch {p : Ps} (a c : List UInt8) (h : p.short) : (chS a c p).short := short_must _ (short_wS h)
end Go.Proofs.YtmddfkpkddemnaaGreatDoor
namespace Go.Proofs.YtmddfkpkddemnaaGreatDoor
open Go.RowKit
/-- A router without where its slices lie. -/
def Rt.plain (r : Rt) : Rt := { r with ifsV := .slice none 0 0, listsV := .slice none 0 0, mapsV := .slice none 0 0, aclsV := .slice none 0 0, natV := .slice none 0 0, statV := .slice none 0 0, rangesV := .slice none 0 0, lsRedV := .slice none 0 0, dvRedV := .slice none 0 0, nbV := .slice none 0 0, netV := .slice none 0 0, agV := .slice none 0 0, cdV := .slice none 0 0, pvRedV := .slice none 0 0, lists := r.lists.map (fun x => ⟨x.name, .slice none 0 0, x.rules⟩), maps := r.maps.map (fun x => ⟨x.name, .slice none 0 0, x.clauses⟩), acls := r.acls.map (fun x => ⟨x.name, .slice none 0 0, x.rules⟩) }
section
variable {k : Nat} {r : Rt}
theorem lenL (r : Rt) : r.plain.lists.length = r.lists.length := List.length_map _
theorem lenM (r : Rt) : r.plain.maps.length = r.maps.length := List.length_map _
theorem lenA (r : Rt) : r.plain.acls.length = r.acls.length := List.length_map _
/-- Bounds of a router's lists, from those of the plain one. -/
theorem rulesL (h : RtI k r.plain) {x : PList} (hx : x ∈ r.lists) : x.rules.length ≤ k ∧ ∀ y ∈ x.rules, y.fit :=
  h.lists.2 ⟨x.name, .slice none 0 0, x.rules⟩ (List.mem_map.2 ⟨x, hx, rfl⟩)
theorem rulesA (h : RtI k r.plain) {x : AList} (hx : x ∈ r.acls) : x.rules.length ≤ k ∧ ∀ y ∈ x.rules, y.fit :=
  h.acls.2 ⟨x.name, .slice none 0 0, x.rules⟩ (List.mem_map.2 ⟨x, hx, rfl⟩)
theorem rulesM (h : RtI k r.plain) {x : RMap} (hx : x ∈ r.maps) : x.clauses.length ≤ k :=
  (h.maps.2 ⟨x.name, .slice none 0 0, x.clauses⟩ (List.mem_map.2 ⟨x, hx, rfl⟩)).1
end
end Go.Proofs.YtmddfkpkddemnaaGreatDoor
