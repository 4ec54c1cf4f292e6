/- A list of lists in memory, one of the lists apart from the others; binary search. Condition: the places ascend. -/
import Derived.Test.YtoceoaiokkbjeaaGreatDoorWz
import Derived.Test.YtoceoaiokkbjeaaGreatDoorWaa
set_option maxHeartbeats 1000000
namespace Go.Proofs.YtoceoaiokkbjeaaGreatDoor
open Lib (hid)
open Go.RowKit
theorem zJi (v : Value) (ms : List (Lm PRule)) (name : List UInt8) (w : World) (h : SlV w w.heap.size 3 Lm.C v ms) :
  Calls Tryz.prog 212 #[v, .string (str name)] w fun e w' => e = .returned (.int .i64 (idxF (fun m => m.name == name) ms 0)) ∧ Below w.heap.size w w' := by
 have HB := hid ((Below.refl w.heap.size w).alloc (Nat.le_refl _) (.cells #[strV name] 9))
 have HX := hid (HasC.new w 9 #[strV name])
 have hs : SlV (w.alloc (.cells #[strV name] 9)) (w.alloc (.cells #[strV name] 9)).heap.size 3 Lm.C v ms := by
  obtain ⟨A, c, e, h1, h2⟩ := h.below HB.out
  exact ⟨A, c, e, h1, h2.mono HB.out.size⟩
 have HI := hid (zJl v ms (fun m => m.name == name) 240 #[.pointer (some ⟨w.heap.size, 0, none⟩)] (enters_of Tryz.func240 (by kernel_rfl) rfl) _ hs (predLFPRule name w.heap.size _ HX.out).below)
 clear h hs
 unfold strV at HI HB HX
 go_enter Tryz.func212, Tryz.ntmps212
 go_wp2_with fail
 refine HI.out.mono ?_
 rintro e w1 ⟨rfl, hb1⟩
 go_wp2_with fail
 go_ret
 exact ⟨rfl, HB.out.trans (hb1.mono HB.out.size)⟩
theorem findCl_any (v : Value) (ms : List (Lm Cl)) (name : List UInt8) (w : World) (h : SlV w w.heap.size 3 Lm.C v ms) :
  Calls Tryz.prog 218 #[v, .string (str name)] w fun e w' => e = .returned (.int .i64 (idxF (fun m => m.name == name) ms 0)) ∧ Below w.heap.size w w' := by
 have HB := hid ((Below.refl w.heap.size w).alloc (Nat.le_refl _) (.cells #[strV name] 9))
 have HX := hid (HasC.new w 9 #[strV name])
 have hs : SlV (w.alloc (.cells #[strV name] 9)) (w.alloc (.cells #[strV name] 9)).heap.size 3 Lm.C v ms := by
  obtain ⟨A, c, e, h1, h2⟩ := h.below HB.out
  exact ⟨A, c, e, h1, h2.mono HB.out.size⟩
 have HI := hid (ixALCl_any v ms (fun m => m.name == name) 243 #[.pointer (some ⟨w.heap.size, 0, none⟩)] (enters_of Tryz.func243 (by kernel_rfl) rfl) _ hs (predLFCl name w.heap.size _ HX.out).below)
 clear h hs
 unfold strV at HI HB HX
 go_enter Tryz.func218, Tryz.ntmps218
 go_wp2_with fail
 refine HI.out.mono ?_
 rintro e w1 ⟨rfl, hb1⟩
 go_wp2_with fail
 go_ret
 exact ⟨rfl, HB.out.trans (hb1.mono HB.out.size)⟩
theorem findRu_any (v : Value) (ms : List (Lm Ru)) (name : List UInt8) (w : World) (h : SlV w w.heap.size 3 Lm.C v ms) :
  Calls Tryz.prog 222 #[v, .string (str name)] w fun e w' => e = .returned (.int .i64 (idxF (fun m => m.name == name) ms 0)) ∧ Below w.heap.size w w' := by
 have HB := hid ((Below.refl w.heap.size w).alloc (Nat.le_refl _) (.cells #[strV name] 9))
 have HX := hid (HasC.new w 9 #[strV name])
 have hs : SlV (w.alloc (.cells #[strV name] 9)) (w.alloc (.cells #[strV name] 9)).heap.size 3 Lm.C v ms := by
  obtain ⟨A, c, e, h1, h2⟩ := h.below HB.out
  exact ⟨A, c, e, h1, h2.mono HB.out.size⟩
 have HI := hid (ixALRu_any v ms (fun m => m.name == name) 244 #[.pointer (some ⟨w.heap.size, 0, none⟩)] (enters_of Tryz.func244 (by kernel_rfl) rfl) _ hs (predLFRu name w.heap.size _ HX.out).below)
 clear h hs
 unfold strV at HI HB HX
 go_enter Tryz.func222, Tryz.ntmps222
 go_wp2_with fail
 refine HI.out.mono ?_
 rintro e w1 ⟨rfl, hb1⟩
 go_wp2_with fail
 go_ret
 exact ⟨rfl, HB.out.trans (hb1.mono HB.out.size)⟩
section
variable {E T El : TypeId} {g b B xb : Nat} {w0 w w' : World} {cs cl : Array Value} {pre post A Bq : List Orow} {p : Ps} {r r' o o' s s' i i' : Orow}
theorem RL.row (h : RL E T g b B w0 cs (pre ++ r :: post) p El xb cl w) (hg : w.grownBy w' r.v.ownBlock) (ho : r'.own w' B) (hn : r'.v.ownBlock = r.v.ownBlock ∨ r'.v.ownBlock = none ∨ ∃ k, r'.v.ownBlock = some k ∧ w.heap.size ≤ k) :
  RL E T g b B w0 cs (pre ++ r' :: post) p El xb cl w' := by
 have hx := zBp h.loc
 have hr : r.v.ownBlock ≠ some xb := zCr h.xr
 refine ⟨RS.row h.base hg ho hn, h.loc.grown hg (fun e => hr e.symm), h.xB, h.xg, h.xw, fun hm => ?_⟩
 have h1 := h.xr
 rw [zCf] at hm h1
 rcases List.mem_append.1 hm with hm | hm
 ·exact h1 (List.mem_append_left _ hm)
 ·obtain ⟨y, hy, e⟩ := List.mem_filterMap.1 hm
  rcases List.mem_cons.1 hy with rfl | hy
  ·rcases hn with q | q | ⟨k, q, hk⟩
   ·exact hr (q.symm.trans e)
   ·rw [q] at e; cases e
   ·rw [q] at e; injection e with e; omega
  ·exact h1 (List.mem_append_right _ (List.mem_filterMap.2 ⟨y, List.mem_cons_of_mem _ hy, e⟩))
def lf (pre A Bq post : List Orow) (o s i : Orow) : List Orow := pre ++ (o :: (A ++ s :: i :: Bq)) ++ post
theorem lf_o : lf pre A Bq post o s i = pre ++ o :: (A ++ s :: i :: Bq ++ post) := by simp [lf]
theorem lf_s : lf pre A Bq post o s i = (pre ++ o :: A) ++ s :: (i :: Bq ++ post) := by simp [lf]
theorem lf_i : lf pre A Bq post o s i = (pre ++ o :: A ++ [s]) ++ i :: (Bq ++ post) := by simp [lf]
theorem RL.lo (h : RL E T g b B w0 cs (lf pre A Bq post o s i) p El xb cl w) (hg : w.grownBy w' o.v.ownBlock) (ho : o'.own w' B) (hn : o'.v.ownBlock = o.v.ownBlock ∨ o'.v.ownBlock = none ∨ ∃ k, o'.v.ownBlock = some k ∧ w.heap.size ≤ k) :
  RL E T g b B w0 cs (lf pre A Bq post o' s i) p El xb cl w' := by
 rw [lf_o] at h ⊢
 exact RL.row h hg ho hn
theorem RL.ls (h : RL E T g b B w0 cs (lf pre A Bq post o s i) p El xb cl w) (hg : w.grownBy w' s.v.ownBlock) (ho : s'.own w' B) (hn : s'.v.ownBlock = s.v.ownBlock ∨ s'.v.ownBlock = none ∨ ∃ k, s'.v.ownBlock = some k ∧ w.heap.size ≤ k) :
  RL E T g b B w0 cs (lf pre A Bq post o s' i) p El xb cl w' := by
 rw [lf_s] at h ⊢
 exact RL.row h hg ho hn
theorem RL.li (h : RL E T g b B w0 cs (lf pre A Bq post o s i) p El xb cl w) (hg : w.grownBy w' i.v.ownBlock) (ho : i'.own w' B) (hn : i'.v.ownBlock = i.v.ownBlock ∨ i'.v.ownBlock = none ∨ ∃ k, i'.v.ownBlock = some k ∧ w.heap.size ≤ k) :
  RL E T g b B w0 cs (lf pre A Bq post o s i') p El xb cl w' := by
 rw [lf_i] at h ⊢
 exact RL.row h hg ho hn
theorem RL.oAt (h : RL E T g b B w0 cs (lf pre A Bq post o s i) p El xb cl w) : o.own w B := h.base.own.1 o (by simp [lf])
theorem RL.sAt (h : RL E T g b B w0 cs (lf pre A Bq post o s i) p El xb cl w) : s.own w B := h.base.own.1 s (by simp [lf])
theorem RL.iAt (h : RL E T g b B w0 cs (lf pre A Bq post o s i) p El xb cl w) : i.own w B := h.base.own.1 i (by simp [lf])
theorem RL.more (h : RL E T g b B w0 cs (pre ++ post) p El xb cl w) {l : List Orow} (hl : ∀ r ∈ l, r.own w B ∧ r.v.ownBlock = none) : RL E T g b B w0 cs (pre ++ l ++ post) p El xb cl w := by
 have hb : blks l = [] := by
  unfold blks
  rw [List.filterMap_eq_nil_iff]
  exact fun r hr => (hl r hr).2
 have e : blks (pre ++ l ++ post) = blks (pre ++ post) := by rw [zCf, zCf, zCf, hb, List.append_nil]
 have h1 := h.base
 refine ⟨⟨h1.has, ⟨fun r hr => ?_, ?_⟩, h1.st, h1.bel, h1.bB, h1.gB, h1.gb, by rw [e]; exact h1.gr, by rw [e]; exact h1.br⟩, h.loc, h.xB, h.xg, h.xw, by rw [e]; exact h.xr⟩
 ·rcases List.mem_append.1 hr with hr | hr
  ·rcases List.mem_append.1 hr with hr | hr
   ·exact h1.own.1 r (List.mem_append_left _ hr)
   ·exact (hl r hr).1
  ·exact h1.own.1 r (List.mem_append_right _ hr)
 ·have := h1.own.2
  show (blks (pre ++ l ++ post)).Nodup
  rw [e]
  exact this
end
section
variable {α : Type} {Tl Ti Te : TypeId} {n : Nat} {cells : α → Array Value} {v : Value} {ms : List (Lm α)}
theorem zFt (pre post : List Orow) {k : Nat} (hk : k < ms.length) : pre ++ zAq Tl Ti Te n cells v ms ++ post =
  lf pre ((ms.take k).flatMap (Lm.rows Ti Te n cells)) ((ms.drop (k + 1)).flatMap (Lm.rows Ti Te n cells)) post (rowE Tl 3 Lm.C v ms) (rowE Ti 1 intC ms[k].sv ms[k].seqs) (rowE Te n cells ms[k].iv ms[k].items) := by
 unfold lf zAq
 have e : ms.flatMap (Lm.rows Ti Te n cells) = (ms.take k).flatMap (Lm.rows Ti Te n cells) ++ (rowE Ti 1 intC ms[k].sv ms[k].seqs :: rowE Te n cells ms[k].iv ms[k].items :: (ms.drop (k + 1)).flatMap (Lm.rows Ti Te n cells)) := by
  conv => lhs; rw [zKk hk]
  rw [List.flatMap_append, List.flatMap_cons]
  rfl
 rw [e]
theorem zDm (pre post : List Orow) (k : Nat) (m : Lm α) (v : Value) :
  lf pre ((ms.take k).flatMap (Lm.rows Ti Te n cells)) ((ms.drop (k + 1)).flatMap (Lm.rows Ti Te n cells)) post (rowE Tl 3 Lm.C v (zAm ms k m)) (rowE Ti 1 intC m.sv m.seqs) (rowE Te n cells m.iv m.items) = pre ++ zAq Tl Ti Te n cells v (zAm ms k m) ++ post := by
 unfold lf zAq
 have e : (zAm ms k m).flatMap (Lm.rows Ti Te n cells) = (ms.take k).flatMap (Lm.rows Ti Te n cells) ++ (rowE Ti 1 intC m.sv m.seqs :: rowE Te n cells m.iv m.items :: (ms.drop (k + 1)).flatMap (Lm.rows Ti Te n cells)) := by
  unfold zAm
  rw [List.flatMap_append, List.flatMap_cons]
  rfl
 rw [e]
theorem zHs (nm : List UInt8) (ms : List (Lm α)) : (idxF (fun m => m.name == nm) ms 0 = -1 ∧ findL nm (ms.map Lm.ls) = ms.length) ∨ ∃ k, k < ms.length ∧ idxF (fun m => m.name == nm) ms 0 = (k : Int) ∧ findL nm (ms.map Lm.ls) = k := by
 have h : ∀ (ms : List (Lm α)) (j : Nat), (idxF (fun m => m.name == nm) ms j = -1 ∧ findL nm (ms.map Lm.ls) = ms.length) ∨ ∃ k, k < ms.length ∧ idxF (fun m => m.name == nm) ms j = ((j + k : Nat) : Int) ∧ findL nm (ms.map Lm.ls) = k := by
  intro ms
  induction ms with
  | nil => intro j; exact .inl ⟨rfl, rfl⟩
  | cons m r ih =>
   intro j
   rw [List.map_cons]
   have hd : findL nm (m.ls :: r.map Lm.ls) = if m.name == nm then 0 else findL nm (r.map Lm.ls) + 1 := rfl
   unfold idxF
   rw [hd]
   cases hm : (m.name == nm) with
   | true => exact .inr ⟨0, by simp, by simp, by simp⟩
   | false =>
    rcases ih (j + 1) with ⟨h1, h2⟩ | ⟨k, h1, h2, h3⟩
    ·exact .inl ⟨by simpa using h1, by simp [h2]⟩
    ·refine .inr ⟨k + 1, by simp only [List.length_cons]; omega, ?_, by simp [h3]⟩
     simp only [Bool.false_eq_true, if_false]
     rw [h2]
     congr 1
     omega
 rcases h ms 0 with h1 | ⟨k, h1, h2, h3⟩
 ·exact .inl h1
 ·exact .inr ⟨k, h1, by simpa using h2, h3⟩
end
theorem zEu (B : Nat) (v : Value) (l : List Int) (q : Int) (w : World) (h : OwnE w B 3 1 intC v l) (hs : l.Pairwise (· < ·)) (hl : l.length ≤ 1000000000) :
  Calls Tryz.prog 213 #[v, .int .i64 q] w fun e w' => e = .returned (.tuple #[.int .i64 (zAc q l : Int), .bool (zDq q l)]) ∧ Below w.heap.size w w' := by
 rcases Nat.eq_zero_or_pos l.length with h0 | h0
 ·have hl : l = [] := List.eq_nil_of_length_eq_zero h0
  subst hl
  obtain ⟨A, c, e, -⟩ := h.slv
  rw [e]
  refine (Tryz.slices_BinarySearch_int_empty A c q w).mono ?_
  rintro e w' ⟨rfl, rfl⟩
  exact ⟨rfl, Below.refl _ _⟩
 ·obtain ⟨g, cap, cur, rfl, -, hC, hc1, hc2, hsz, hfl⟩ := h.blk h0
  simp only [maxLen] at hc2
  refine (Tryz.slices_BinarySearch_int g 0 l.length cap l q w (Nat.le_refl _) ?_ ?_ ?_).mono ?_
  ·omega
  ·intro j hj
   have := hC.cell j
   rw [Nat.zero_add, this]
   have e : (cur.toList.take (l.length * 1))[j]? = some (.int .i64 (l.getD j 0)) := by
    rw [hfl]
    have hf : (l.flatMap fun x => (intC x).toList) = l.map (Value.int .i64) := by
     clear hfl hs h hl h0 hc1 hj
     induction l with
     | nil => rfl
     | cons y r ih => rw [List.flatMap_cons, List.map_cons, ih]; rfl
    rw [hf, List.getElem?_map, List.getElem?_eq_getElem hj, List.getD_eq_getElem?_getD, List.getElem?_eq_getElem hj]
    rfl
   rw [List.getElem?_take_of_lt (by omega)] at e
   simpa using e
  ·rw [List.take_length]; exact hs.imp (fun h => by omega)
  ·rintro e w' ⟨rfl, n, rfl⟩
   rw [List.take_length]
   refine ⟨?_, zEt w n⟩
   rw [zKg q l hs, ← count_place q l hs]
end Go.Proofs.YtoceoaiokkbjeaaGreatDoor
