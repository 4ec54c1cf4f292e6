/- Dialect Alpha, plain: what holds of the reader's state behind k lines: lists are short, places ascend, addresses fit, the open interface or clause is there. No condition. -/
import Derived.Test.YtoceoaiokkbjeaaGreatDoorWl
namespace Go.Proofs.YtoceoaiokkbjeaaGreatDoor
open Lib (hid)
open Go.RowKit
def LenFit {α : Type} (fit : α → Prop) (k : Nat) (l : List α) : Prop := l.length ≤ k ∧ ∀ x ∈ l, fit x
section
variable {α : Type} {fit : α → Prop} {k : Nat} {l : List α}
theorem LenFit.nil : LenFit fit k [] := ⟨Nat.zero_le _, fun _ h => by cases h⟩
theorem LenFit.up (h : LenFit fit k l) {k' : Nat} (hk : k ≤ k') : LenFit fit k' l := ⟨Nat.le_trans h.1 hk, h.2⟩
theorem LenFit.snoc (h : LenFit fit k l) {x : α} (hx : fit x) : LenFit fit (k + 1) (l ++ [x]) :=
 ⟨by rw [List.length_append]; have := h.1; simp; omega, fun y hy => by
  rcases List.mem_append.1 hy with hy | hy
  ·exact h.2 y hy
  ·obtain rfl := List.mem_singleton.1 hy; exact hx⟩
theorem LenFit.sub (h : LenFit fit k l) {l' : List α} (hs : l'.Sublist l) : LenFit fit k l' := ⟨Nat.le_trans hs.length_le h.1, fun x hx => h.2 x (hs.subset hx)⟩
theorem LenFit.drop (h : LenFit fit k l) (p : α → Bool) : LenFit fit k (dropL p l) := h.sub List.filter_sublist
theorem replL_len (p : α → Bool) (x : α) : ∀ l : List α, (replL p x l).length ≤ l.length + 1 ∧ ∀ y ∈ replL p x l, y = x ∨ y ∈ l
 | [] => ⟨by simp [replL], fun y hy => .inl (by simpa [replL] using hy)⟩
 | y :: r => by
  obtain ⟨h1, h2⟩ := replL_len p x r
  unfold replL
  split
  ·exact ⟨by simp, fun z hz => by rcases List.mem_cons.1 hz with e | e; exact .inl e; exact .inr (List.mem_cons_of_mem _ e)⟩
  ·refine ⟨by simp; omega, fun z hz => ?_⟩
   rcases List.mem_cons.1 hz with e | e
   ·exact .inr (by rw [e]; exact List.mem_cons_self)
   ·rcases h2 z e with e | e
    ·exact .inl e
    ·exact .inr (List.mem_cons_of_mem _ e)
theorem LenFit.repl (h : LenFit fit k l) (p : α → Bool) {x : α} (hx : fit x) : LenFit fit (k + 1) (replL p x l) := by
 obtain ⟨h1, h2⟩ := replL_len p x l
 refine ⟨by have := h.1; omega, fun y hy => ?_⟩
 rcases h2 y hy with rfl | e
 ·exact hx
 ·exact h.2 y e
theorem zHw {i : Nat} {x y : α} (h : y ∈ zAm l i x) : y = x ∨ y ∈ l := by
 unfold zAm at h
 rcases List.mem_append.1 h with h | h
 ·exact .inr (List.mem_of_mem_take h)
 ·rcases List.mem_cons.1 h with h | h
  ·exact .inl h
  ·exact .inr (List.mem_of_mem_drop h)
theorem zBf {i : Nat} (hi : i < l.length) (x : α) : (zAm l i x).length = l.length := by unfold zAm; simp; omega
theorem LenFit.set (h : LenFit fit k l) {i : Nat} (hi : i < l.length) {x : α} (hx : fit x) : LenFit fit k (zAm l i x) :=
 ⟨by rw [zBf hi]; exact h.1, fun y hy => by rcases zHw hy with rfl | e; exact hx; exact h.2 y e⟩
theorem mem_insAt {i : Nat} {x y : α} (h : y ∈ insAt l i x) : y = x ∨ y ∈ l := by
 unfold insAt at h
 rcases List.mem_append.1 h with h | h
 ·exact .inr (List.mem_of_mem_take h)
 ·rcases List.mem_cons.1 h with h | h
  ·exact .inl h
  ·exact .inr (List.mem_of_mem_drop h)
theorem zBt {i : Nat} (x : α) : (insAt l i x).length = l.length + 1 := by unfold insAt; simp; omega
theorem delAt_sub (i : Nat) : (delAt l i).Sublist l := by
 unfold delAt
 conv => rhs; rw [← List.take_append_drop i l]
 refine List.Sublist.append (List.Sublist.refl _) ?_
 rw [← List.drop_drop]
 exact List.drop_sublist _ _
theorem zEi {i : Nat} (hi : i < l.length) : (delAt l i).length = l.length - 1 := by unfold delAt; simp; omega
end
structure LsOne {α : Type} (fit : α → Prop) (k : Nat) (y : Ls α) : Prop where
 len : y.items.length = y.seqs.length
 items : LenFit fit k y.items
 asc : y.seqs.Pairwise (· < ·)
section
variable {α : Type} {fit : α → Prop} {k : Nat}
theorem LsOne.up {y : Ls α} (h : LsOne fit k y) {k' : Nat} (hk : k ≤ k') : LsOne fit k' y := ⟨h.len, h.items.up hk, h.asc⟩
theorem zEg (q : Int) : ∀ l : List Int, zAc q l ≤ l.length
 | [] => Nat.le_refl _
 | y :: r => by unfold zAc; split; have := zEg q r; simp only [List.length_cons]; omega; exact Nat.zero_le _
theorem placeOf_lt (q : Int) : ∀ (l : List Int), ∀ x ∈ l.take (zAc q l), x < q
 | [], x, hx => by simp at hx
 | y :: r, x, hx => by
  unfold zAc at hx
  split at hx
  ·rw [List.take_succ_cons] at hx
   rcases List.mem_cons.1 hx with rfl | hx
   ·assumption
   ·exact placeOf_lt q r x hx
  ·simp at hx
theorem placeOf_ge (q : Int) : ∀ (l : List Int), l.Pairwise (· < ·) → ∀ x ∈ l.drop (zAc q l), q ≤ x
 | [], _, x, hx => by simp at hx
 | y :: r, h, x, hx => by
  unfold zAc at hx
  rw [List.pairwise_cons] at h
  split at hx
  ·exact placeOf_ge q r h.2 x (by simpa using hx)
  ·rw [List.drop_zero] at hx
   rcases List.mem_cons.1 hx with rfl | hx
   ·omega
   ·have := h.1 x hx; omega
theorem zEl {q : Int} {l : List Int} (h : zDq q l = true) : zAc q l < l.length := by
 unfold zDq at h
 rcases Nat.lt_or_ge (zAc q l) l.length with h1 | h1
 ·exact h1
 ·rw [List.getElem?_eq_none h1] at h; cases h
theorem drop_cons_at {β : Type} {l : List β} {i : Nat} (hi : i < l.length) : l.drop i = l[i] :: l.drop (i + 1) := List.drop_eq_getElem_cons hi
theorem asc_ins {q : Int} {l : List Int} (h : l.Pairwise (· < ·)) (hn : zDq q l = false) : (insAt l (zAc q l) q).Pairwise (· < ·) := by
 have h0 : (l.take (zAc q l) ++ l.drop (zAc q l)).Pairwise (· < ·) := by rw [List.take_append_drop]; exact h
 obtain ⟨h1, h2, h3⟩ := List.pairwise_append.1 h0
 have hd : ∀ x ∈ l.drop (zAc q l), q < x := by
  intro x hx
  rcases Nat.lt_or_ge (zAc q l) l.length with hl | hl
  ·have hne : l[zAc q l] ≠ q := by
    intro e
    unfold zDq at hn
    rw [List.getElem?_eq_getElem hl, e] at hn
    simp at hn
   have hge := placeOf_ge q l h
   rw [drop_cons_at hl] at hx hge h2
   rw [List.pairwise_cons] at h2
   have h4 := hge _ List.mem_cons_self
   rcases List.mem_cons.1 hx with rfl | hx
   ·omega
   ·have := h2.1 x hx; omega
  ·rw [List.drop_eq_nil_of_le hl] at hx; cases hx
 unfold insAt
 refine List.pairwise_append.2 ⟨h1, List.pairwise_cons.2 ⟨hd, h2⟩, fun a ha b hb => ?_⟩
 have ha' := placeOf_lt q l a ha
 rcases List.mem_cons.1 hb with rfl | hb
 ·exact ha'
 ·have := hd b hb; omega
theorem LsOne.put {y : Ls α} (h : LsOne fit k y) (q : Int) {x : α} (hx : fit x) : LsOne fit (k + 1) (zFq q x y) := by
 unfold zFq
 cases hs : zDq q y.seqs with
 | true =>
  have hi : zAc q y.seqs < y.items.length := by rw [h.len]; exact zEl hs
  simp only [if_true]
  exact ⟨by dsimp only; rw [zBf hi]; exact h.len, (h.items.set hi hx).up (Nat.le_succ _), h.asc⟩
 | false =>
  simp only [Bool.false_eq_true, if_false]
  refine ⟨by dsimp only; rw [zBt, zBt, h.len], ⟨by dsimp only; rw [zBt]; have := h.items.1; omega, fun z hz => ?_⟩, asc_ins h.asc hs⟩
  rcases mem_insAt hz with rfl | e
  ·exact hx
  ·exact h.items.2 z e
theorem LsOne.del {y : Ls α} (h : LsOne fit k y) (q : Int) : LsOne fit k (zCl q y) := by
 unfold zCl
 cases hs : zDq q y.seqs with
 | true =>
  have hi := zEl hs
  simp only [if_true]
  exact ⟨by dsimp only; rw [zEi hi, zEi (by rw [h.len]; exact hi), h.len], h.items.sub (delAt_sub _), h.asc.sublist (delAt_sub _)⟩
 | false => simpa only [Bool.false_eq_true, if_false] using h
def LsOk {α : Type} (fit : α → Prop) (k : Nat) (l : List (Ls α)) : Prop := l.length ≤ k ∧ ∀ y ∈ l, LsOne fit k y
theorem LsOk.up {l : List (Ls α)} (h : LsOk fit k l) {k' : Nat} (hk : k ≤ k') : LsOk fit k' l := ⟨Nat.le_trans h.1 hk, fun y hy => (h.2 y hy).up hk⟩
theorem LsOk.nil : LsOk fit k ([] : List (Ls α)) := ⟨Nat.zero_le _, fun _ h => by cases h⟩
theorem LsOk.sub {l l' : List (Ls α)} (h : LsOk fit k l) (hs : l'.Sublist l) : LsOk fit k l' := ⟨Nat.le_trans hs.length_le h.1, fun y hy => h.2 y (hs.subset hy)⟩
theorem lsNew {x : α} {q : Int} {n : List UInt8} (hx : fit x) (hk : 0 < k) : LsOne fit k ⟨n, [q], [x]⟩ := ⟨rfl, ⟨hk, fun y hy => by obtain rfl := List.mem_singleton.1 hy; exact hx⟩, by simp⟩
theorem LsOk.put {l : List (Ls α)} (h : LsOk fit k l) (n : List UInt8) (q : Int) {x : α} (hx : fit x) : LsOk fit (k + 1) (putL n q x l) := by
 unfold putL
 split
 ·rename_i y hy
  obtain ⟨hi, e⟩ := List.getElem?_eq_some_iff.1 hy
  refine ⟨by rw [zBf hi]; have := h.1; omega, fun z hz => ?_⟩
  rcases zHw hz with rfl | hz
  ·exact (h.2 y (by rw [← e]; exact List.getElem_mem hi)).put q hx
  ·exact (h.2 z hz).up (Nat.le_succ _)
 ·refine ⟨by rw [List.length_append]; have := h.1; simp; omega, fun z hz => ?_⟩
  rcases List.mem_append.1 hz with hz | hz
  ·exact (h.2 z hz).up (Nat.le_succ _)
  ·obtain rfl := List.mem_singleton.1 hz
   exact lsNew hx (Nat.succ_pos _)
theorem LsOk.drop {l : List (Ls α)} (h : LsOk fit k l) (n : List UInt8) (q : Int) : LsOk fit k (zFf n q l) := by
 unfold zFf
 split
 ·exact h
 ·rename_i y hy
  obtain ⟨hi, e⟩ := List.getElem?_eq_some_iff.1 hy
  split
  ·exact h.sub (delAt_sub _)
  ·refine ⟨by rw [zBf hi]; exact h.1, fun z hz => ?_⟩
   rcases zHw hz with rfl | hz
   ·exact (h.2 y (by rw [← e]; exact List.getElem_mem hi)).del q
   ·exact h.2 z hz
theorem LsOk.remove {l : List (Ls α)} (h : LsOk fit k l) (p : Ps) : LsOk fit k (zBa p l).1 := by
 unfold zBa
 split
 ·exact h.sub List.filter_sublist
 ·exact h.drop _ _
end
theorem put_at {α : Type} {fit : α → Prop} {k : Nat} {l : List (Ls α)} (h : LsOk fit k l) (n : List UInt8) (q : Int) (x : α) :
  ∃ y, (putL n q x l)[(putAt n q l).1]? = some y ∧ (putAt n q l).2 < y.items.length := by
 unfold putL putAt
 cases hy : l[findL n l]? with
 | some y =>
  obtain ⟨hi, e⟩ := List.getElem?_eq_some_iff.1 hy
  have h1 := h.2 y (by rw [← e]; exact List.getElem_mem hi)
  refine ⟨zFq q x y, ?_, ?_⟩
  ·dsimp only
   unfold zAm
   rw [List.getElem?_append_right (by simp; omega)]
   simp [Nat.min_eq_left (Nat.le_of_lt hi)]
  ·dsimp only
   unfold zFq
   have hp := zEg q y.seqs
   cases hs : zDq q y.seqs with
   | true =>
    have h2 := zEl hs
    simp only [if_true]
    rw [zBf (by rw [h1.len]; exact h2), h1.len]
    exact h2
   | false =>
    simp only [Bool.false_eq_true, if_false]
    rw [zBt, h1.len]
    omega
 | none => exact ⟨⟨n, [q], [x]⟩, by simp, by simp⟩
structure AlOk (k : Nat) (a : Al) : Prop where
 ifs : LenFit If.fit k a.ifs
 nat : LenFit Tr.fit k a.nat
 stat : LenFit Sr.fit k a.stat
 ranges : LenFit AR.fit k a.ranges
 lsRed : LenFit Rd.fit k a.lsRed
 dvRed : LenFit Rd.fit k a.dvRed
 nb : LenFit Nb.fit k a.nb
 net : LenFit Pf.fit k a.net
 ag : LenFit Ag.fit k a.ag
 cd : LenFit Cd.fit k a.cd
 pvRed : LenFit Rd.fit k a.pvRed
 lists : LsOk PRule.fit k a.lists
 maps : LsOk Cl.fit k a.maps
 acls : LsOk Ru.fit k a.acls
 iface : a.block = 1 → a.iface < a.ifs.length
 clause : a.block = 2 → ∃ y, a.maps[a.clause.1]? = some y ∧ a.clause.2 < y.items.length
theorem AlOk.up {k k' : Nat} {a : Al} (h : AlOk k a) (hk : k ≤ k') : AlOk k' a :=
 ⟨h.ifs.up hk, h.nat.up hk, h.stat.up hk, h.ranges.up hk, h.lsRed.up hk, h.dvRed.up hk, h.nb.up hk, h.net.up hk, h.ag.up hk, h.cd.up hk, h.pvRed.up hk, h.lists.up hk, h.maps.up hk, h.acls.up hk, h.iface, h.clause⟩
theorem AlOk.zero (k : Nat) : AlOk k Al.zero := ⟨.nil, .nil, .nil, .nil, .nil, .nil, .nil, .nil, .nil, .nil, .nil, .nil, .nil, .nil, (fun h => by cases h), (fun h => by cases h)⟩
theorem AlOk.closed {k : Nat} {a : Al} (h : AlOk k a) : AlOk k { a with block := 0 } :=
 ⟨h.ifs, h.nat, h.stat, h.ranges, h.lsRed, h.dvRed, h.nb, h.net, h.ag, h.cd, h.pvRed, h.lists, h.maps, h.acls, (fun h => by cases h), (fun h => by cases h)⟩
theorem adV_lt (p : Ps) : adV p < 4294967296 := by
 unfold adV
 cases h : zCe (wV p) with
 | none => simp
 | some a => simpa using zFo h
theorem hoV_lt (p : Ps) : (hoV p).1 < 4294967296 := by
 unfold hoV
 cases h : hostA (wV p) with
 | none => simp
 | some a => obtain ⟨a, n⟩ := a; simpa using (hostA_lt h).1
theorem zHf (p : Ps) : (pxV p).1 < 4294967296 := by
 unfold pxV
 cases h : pfxA (wV p) with
 | none => simp
 | some a => obtain ⟨a, n⟩ := a; simpa using (pfxA_fit h).1
theorem wildA_lt {l : List UInt8} {x : Nat × Nat} (h : wildA l = some x) : x.1 < 4294967296 ∧ x.2 < 4294967296 := by
 unfold wildA at h
 split at h
 ·cases h; simp
 ·split at h
  ·rename_i a ha; cases h; exact ⟨zFo ha, by simp⟩
  ·split at h
   ·rename_i p hp; cases h; obtain ⟨a, n⟩ := p; exact ⟨(pfxA_fit hp).1, by dsimp only; omega⟩
   ·split at h
    ·cases h
    ·rename_i a ha
     split at h
     ·cases h
     ·rename_i m hm
      split at h
      ·cases h; exact ⟨zFo ha, zFo hm⟩
      ·cases h
theorem zEd (p : Ps) : (wiV p).1 < 4294967296 ∧ (wiV p).2 < 4294967296 := by
 unfold wiV
 cases h : wildA (wV p) with
 | none => simp
 | some a => simpa using wildA_lt h
theorem red_ok {k : Nat} {l : List Rd} (h : LenFit Rd.fit k l) (into : Int) (no : Bool) (p : Ps) : LenFit Rd.fit (k + 1) (zCm l into no p).1 := by
 unfold zCm
 cases no with
 | true => exact (h.drop _).up (Nat.le_succ _)
 | false => exact h.repl _ trivial
theorem nb_ok {k : Nat} {l : List Nb} (h : LenFit Nb.fit k l) (no : Bool) (p : Ps) : LenFit Nb.fit (k + 1) (nbCmd l no p).1 := by
 unfold nbCmd
 cases no with
 | true => exact (h.drop _).up (Nat.le_succ _)
 | false => exact h.repl _ (adV_lt p)
theorem cd_ok {k : Nat} {l : List Cd} (h : LenFit Cd.fit k l) (no : Bool) (p : Ps) : LenFit Cd.fit (k + 1) (cdCmd l no p).1 := by
 unfold cdCmd
 cases no with
 | true => exact (h.drop _).up (Nat.le_succ _)
 | false => exact h.repl _ ⟨zHf _, zHf _⟩
theorem lsCmd_ok {k : Nat} {a : Al} (h : AlOk k a) (word : List UInt8) (no : Bool) (p : Ps) : AlOk (k + 1) (lsCmd word no a p).1 := by
 have hu := h.up (Nat.le_succ k)
 unfold lsCmd
 split
 ·exact { hu with }
 ·split
  ·refine { hu with ranges := ?_ }
   cases no with
   | true => exact (h.ranges.drop _).up (Nat.le_succ _)
   | false => exact h.ranges.repl _ (zHf _)
  ·split
   ·exact { hu with lsRed := red_ok h.lsRed _ _ _ }
   ·exact hu
theorem dvCmd_ok {k : Nat} {a : Al} (h : AlOk k a) (word : List UInt8) (no : Bool) (p : Ps) : AlOk (k + 1) (dvCmd word no a p).1 := by
 have hu := h.up (Nat.le_succ k)
 unfold dvCmd
 split
 ·exact { hu with }
 ·split
  ·split
   ·exact { hu with }
   ·split
    ·exact { hu with }
    ·exact { hu with }
  ·split
   ·exact { hu with dvRed := red_ok h.dvRed _ _ _ }
   ·exact hu
theorem pvCmd_ok {k : Nat} {a : Al} (h : AlOk k a) (word : List UInt8) (no : Bool) (p : Ps) : AlOk (k + 1) (pvCmd word no a p).1 := by
 have hu := h.up (Nat.le_succ k)
 unfold pvCmd
 split
 ·split
  ·exact { hu with }
  ·exact { hu with }
 ·split
  ·exact { hu with nb := nb_ok h.nb _ _ }
  ·split
   ·refine { hu with net := ?_ }
    cases no with
    | true => exact (h.net.drop _).up (Nat.le_succ _)
    | false => exact h.net.repl _ (zHf _)
   ·split
    ·dsimp only
     cases no with
     | true => exact { hu with ag := (h.ag.drop _).up (Nat.le_succ _) }
     | false => exact { hu with ag := h.ag.repl _ (zHf _) }
    ·split
     ·exact { hu with cd := cd_ok h.cd _ _ }
     ·split
      ·exact { hu with pvRed := red_ok h.pvRed _ _ _ }
      ·exact hu
theorem ifCmd_fit {x : If} (h : x.fit) (word : List UInt8) (no : Bool) (p : Ps) : (ifCmd x word no p).1.fit := by
 have h0 : x.addr < 4294967296 := h
 have hz : (ifCmd x word no p).1.addr < 4294967296 := by
  unfold ifCmd
  dsimp only
  repeat' split
  all_goals first | exact h0 | exact hoV_lt p | (show (0 : Nat) < 4294967296; decide)
 exact hz
theorem innS_ok {k : Nat} {a : Al} (h : AlOk k a) (word : List UInt8) (no : Bool) (p : Ps) : AlOk (k + 1) (innS word no a p).1 := by
 have hu := h.up (Nat.le_succ k)
 unfold innS
 split
 ·rename_i hb
  have hi := h.iface hb
  have hf : (ifGet a).fit := by
   unfold ifGet
   rw [List.getElem?_eq_getElem hi]
   exact h.ifs.2 _ (List.getElem_mem hi)
  exact { hu with ifs := (h.ifs.set hi (ifCmd_fit hf word no p)).up (Nat.le_succ _), iface := fun hb => by show a.iface < (zAm _ _ _).length; rw [zBf hi]; exact hi }
 ·split
  ·rename_i hb
   obtain ⟨y, hy, hc⟩ := h.clause hb
   unfold clSet
   rw [hy]
   obtain ⟨hi, e⟩ := List.getElem?_eq_some_iff.1 hy
   have h1 := h.maps.2 y (by rw [← e]; exact List.getElem_mem hi)
   refine { hu with maps := ?_, clause := fun _ => ?_ }
   ·refine ⟨by dsimp only; rw [zBf hi]; have := h.maps.1; omega, fun z hz => ?_⟩
    rcases zHw hz with rfl | hz
    ·exact ⟨by dsimp only; rw [zBf hc]; exact h1.len, (h1.items.set hc trivial).up (Nat.le_succ _), h1.asc⟩
    ·exact (h.maps.2 z hz).up (Nat.le_succ _)
   ·refine ⟨⟨y.name, y.seqs, zAm y.items a.clause.2 (clCmd (clGet a) word no p).1⟩, ?_, ?_⟩
    ·dsimp only
     unfold zAm
     rw [List.getElem?_append_right (by rw [List.length_take]; omega), List.length_take, Nat.min_eq_left (Nat.le_of_lt hi), Nat.sub_self]
     rfl
    ·dsimp only
     rw [zBf hc]
     exact hc
  ·split
   ·exact lsCmd_ok h _ _ _
   ·split
    ·exact dvCmd_ok h _ _ _
    ·split
     ·exact pvCmd_ok h _ _ _
     ·exact hu
theorem pTrans_fit (p : Ps) : (zDz p).1.fit := by
 have z : (0 : Nat) < 4294967296 := by decide
 unfold zDz
 dsimp only
 repeat' split
 all_goals first | exact ⟨adV_lt _, adV_lt _, z, z⟩ | exact ⟨z, z, adV_lt _, adV_lt _⟩ | exact ⟨z, z, z, z⟩
theorem pStatic_fit (p : Ps) : (zEx p).1.fit := by
 have z : (0 : Nat) < 4294967296 := by decide
 unfold zEx
 dsimp only
 repeat' split
 all_goals first | exact ⟨zHf _, adV_lt _⟩ | exact ⟨zHf _, z⟩
theorem globS_ok {k : Nat} {a : Al} (h : AlOk k a) (word : List UInt8) (p : Ps) : AlOk (k + 1) (globS word { a with block := 0 } p).1 := by
 have hc := h.closed
 have hu := hc.up (Nat.le_succ k)
 unfold globS
 split
 ·exact { hu with }
 split
 ·exact { hu with }
 split
 ·unfold zDt
  dsimp only
  split
  ·rename_i hi
   exact { hu with iface := fun _ => hi, clause := (fun hb => by cases hb) }
  ·refine { hu with ifs := h.ifs.snoc (by show (0 : Nat) < 4294967296; decide), iface := fun _ => ?_, clause := (fun hb => by cases hb) }
   show a.ifs.length < (a.ifs ++ [_]).length
   simp
 split
 ·exact { hu with lists := h.lists.put _ _ (zHf _) }
 split
 ·refine { hu with maps := h.maps.put _ _ trivial, iface := (fun hb => by cases hb), clause := fun _ => ?_ }
  exact put_at h.maps _ _ _
 split
 ·exact { hu with acls := h.acls.put _ _ ⟨(zEd _).1, (zEd _).2, (zEd _).1, (zEd _).2⟩ }
 split
 ·exact { hu with nat := h.nat.snoc (pTrans_fit p) }
 split
 ·exact { hu with stat := h.stat.repl _ (pStatic_fit p) }
 split
 ·unfold zEh
  dsimp only
  repeat' split
  all_goals exact { hu with iface := (fun hb => by cases hb), clause := (fun hb => by cases hb) }
 ·exact hu
theorem remS_ok {k : Nat} {a : Al} (h : AlOk k a) (word : List UInt8) (p : Ps) : AlOk (k + 1) (remS word { a with block := 0 } p).1 := by
 have hc := h.closed
 have hu := hc.up (Nat.le_succ k)
 unfold remS
 by_cases q : (word == [97, 115]) = true
 ·rw [if_pos q]; exact { hu with }
 rw [if_neg q]; clear q
 by_cases q : (word == [105, 110, 116, 101, 114, 102, 97, 99, 101]) = true
 ·rw [if_pos q]; exact { hu with ifs := (h.ifs.drop _).up (Nat.le_succ _), iface := (fun hb => by cases hb) }
 rw [if_neg q]; clear q
 by_cases q : (word == [112, 114, 101, 102, 105, 120, 45, 108, 105, 115, 116]) = true
 ·rw [if_pos q]; exact { hu with lists := (h.lists.remove p).up (Nat.le_succ _) }
 rw [if_neg q]; clear q
 by_cases q : (word == [114, 111, 117, 116, 101, 45, 109, 97, 112]) = true
 ·rw [if_pos q]; exact { hu with maps := (h.maps.remove p).up (Nat.le_succ _), clause := (fun hb => by cases hb) }
 rw [if_neg q]; clear q
 by_cases q : (word == [97, 99, 99, 101, 115, 115, 45, 108, 105, 115, 116]) = true
 ·rw [if_pos q]; exact { hu with acls := (h.acls.remove p).up (Nat.le_succ _) }
 rw [if_neg q]; clear q
 by_cases q : (word == [110, 97, 116]) = true
 ·rw [if_pos q]; exact { hu with nat := .nil }
 rw [if_neg q]; clear q
 by_cases q : (word == [114, 111, 117, 116, 101]) = true
 ·rw [if_pos q]; exact { hu with stat := (h.stat.drop _).up (Nat.le_succ _) }
 rw [if_neg q]; clear q
 by_cases q : (word == [114, 111, 117, 116, 101, 114]) = true
 ·rw [if_pos q]; clear q
  by_cases q : (wV p == [108, 115]) = true
  ·rw [if_pos q]; exact { hu with ranges := .nil, lsRed := .nil }
  rw [if_neg q]; clear q
  by_cases q : (wV p == [100, 118]) = true
  ·rw [if_pos q]; exact { hu with dvRed := .nil }
  rw [if_neg q]; clear q
  by_cases q : (wV p == [112, 118]) = true
  ·rw [if_pos q]; exact { hu with nb := .nil, net := .nil, ag := .nil, cd := .nil, pvRed := .nil }
  rw [if_neg q]; clear q
  exact hu
 ·rw [if_neg q]; exact hu
theorem lineS_ok {k : Nat} {a : Al} (h : AlOk k a) (fs : List (List UInt8)) : AlOk (k + 1) (lineS fs a).1 := by
 unfold lineS
 dsimp only
 split
 ·exact h.up (Nat.le_succ _)
 ·dsimp only
  split
  ·exact innS_ok h _ _ _
  ·split
   ·exact remS_ok h _ _
   ·exact globS_ok h _ _
end Go.Proofs.YtoceoaiokkbjeaaGreatDoor
