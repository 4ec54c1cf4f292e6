/- The state of a reader in memory: one struct, owned slices, the words of a line. No condition. -/
import Derived.Test.YtoceoaiokkbjeaaGreatDoorWn
namespace Go.Proofs.YtoceoaiokkbjeaaGreatDoor
open Lib (hid)
open Go.RowKit
def blks (rs : List Orow) : List Nat := rs.filterMap (·.v.ownBlock)
theorem zCf (a b : List Orow) : blks (a ++ b) = blks a ++ blks b := List.filterMap_append
theorem OwnAll.swap {w w' : World} {B : Nat} {pre X X' post : List Orow} {rs : List Nat} (h : OwnAll w B (pre ++ X ++ post)) (hf : Fr rs w w') (ho : OwnAll w' B X') (hn : ∀ k ∈ blks X', k ∈ blks X ∨ w.heap.size ≤ k)
  (hr : ∀ k ∈ rs, k ∉ blks pre ∧ k ∉ blks post) : OwnAll w' B (pre ++ X' ++ post) := by
 have hd := h.2
 rw [List.filterMap_append, List.filterMap_append] at hd
 have hlt : ∀ k, k ∈ blks pre ∨ k ∈ blks post → k < w.heap.size := by
  intro k hk
  refine (OwnAll.lt h ?_).1
  rw [List.filterMap_append, List.filterMap_append]
  rcases hk with hk | hk
  ·exact List.mem_append_left _ (List.mem_append_left _ hk)
  ·exact List.mem_append_right _ hk
 refine ⟨fun r hr' => ?_, ?_⟩
 ·rcases List.mem_append.1 hr' with h1 | h1
  ·rcases List.mem_append.1 h1 with h2 | h2
   ·exact Orow.own.fr (h.1 r (List.mem_append_left _ (List.mem_append_left _ h2))) hf (fun g hg hm => (hr g hm).1 (List.mem_filterMap.2 ⟨r, h2, hg⟩))
   ·exact ho.1 r h2
  ·exact Orow.own.fr (h.1 r (List.mem_append_right _ h1)) hf (fun g hg hm => (hr g hm).2 (List.mem_filterMap.2 ⟨r, h1, hg⟩))
 ·rw [List.filterMap_append, List.filterMap_append]
  have h1 := List.nodup_append.1 hd
  have h2 := List.nodup_append.1 h1.1
  refine List.nodup_append.2 ⟨List.nodup_append.2 ⟨h2.1, ho.2, fun a ha b hb e => ?_⟩, h1.2.1, fun a ha b hb e => ?_⟩
  ·subst e
   rcases hn a hb with hx | hx
   ·exact h2.2.2 a ha a hx rfl
   ·have := hlt a (.inl ha); omega
  ·subst e
   rcases List.mem_append.1 ha with ha | ha
   ·exact h1.2.2 a (List.mem_append_left _ ha) a hb rfl
   ·rcases hn a ha with hx | hx
    ·exact h1.2.2 a (List.mem_append_right _ hx) a hb rfl
    ·have := hlt a (.inr hb); omega
structure RS (E T : TypeId) (g b B : Nat) (w0 : World) (cs : Array Value) (rs : List Orow) (p : Ps) (w : World) : Prop where
 has : HasC E g cs w
 own : OwnAll w B rs
 st : WSt T b B p w
 bel : Below B w0 w
 bB : B ≤ w0.heap.size
 gB : B ≤ g
 gb : g ≠ b
 gr : g ∉ blks rs
 br : b ∉ blks rs
section
variable {E T : TypeId} {g b B : Nat} {w0 w w' : World} {cs cs' : Array Value} {rs pre X X' post : List Orow} {p p' : Ps}
theorem RS.size (h : RS E T g b B w0 cs rs p w) : w0.heap.size ≤ w.heap.size := h.bel.size
theorem RS.g_lt (h : RS E T g b B w0 cs rs p w) : g < w.heap.size := zBp h.has
theorem RS.b_lt (h : RS E T g b B w0 cs rs p w) : b < w.heap.size := h.st.lt
theorem RS.cell (h : RS E T g b B w0 cs rs p w) (j : Nat) : w.cell? ⟨g, j, none⟩ = cs[j]? := h.has.cell j
theorem RS.frz (h : RS E T g b B w0 cs rs p w) (j : Nat) : w.frozen? ⟨g, j, none⟩ = false := h.has.frz j
theorem RS.env (h : RS E T g b B w0 cs rs p w) (he : EnvA B w0) : EnvA B w := he.keep h.bel
theorem RS.blt (h : RS E T g b B w0 cs rs p w) {k : Nat} (hk : k ∈ blks rs) : k < w.heap.size ∧ B ≤ k := OwnAll.lt h.own hk
theorem RS.put (h : RS E T g b B w0 cs rs p w) (j : Nat) (v : Value) (e : cs.setIfInBounds j v = cs') : RS E T g b B w0 cs' rs p (w.setCell ⟨g, j, none⟩ v) := by
 have hg := zBj w g j v
 have hw := h.size
 have hB := h.bB
 refine ⟨?_, h.own.frame hg (fun k hk => by cases hk; exact h.gr), h.st.other hg (fun k hk => by cases hk; exact ⟨h.gB, h.gb⟩), h.bel.trans (zAs hg h.gB (by omega)), h.bB, h.gB, h.gb, h.gr, h.br⟩
 subst e
 exact Lib.heap_setCell_same (i := j) h.has v
theorem RS.word (h : RS E T g b B w0 cs rs p w) (hs : WSt T b B p' w') (hg : w.grownBy w' (some b)) : RS E T g b B w0 cs rs p' w' := by
 have hw := h.size
 have hB := h.bB
 exact ⟨h.has.grown hg (fun e => h.gb (by injection e)), h.own.frame hg (fun k hk => by cases hk; exact h.br), hs, h.bel.trans (zAs hg h.st.1 (by omega)), h.bB, h.gB, h.gb, h.gr, h.br⟩
theorem RS.keep (h : RS E T g b B w0 cs rs p w) (hb : Below w.heap.size w w') : RS E T g b B w0 cs rs p w' := by
 have hw := h.size
 have hB := h.bB
 exact ⟨h.has.keep hb, h.own.below hb, h.st.keep hb, h.bel.trans (hb.mono (by omega)), h.bB, h.gB, h.gb, h.gr, h.br⟩
theorem RS.bad (h : RS E T g b B w0 cs rs p w) : RS E T g b B w0 cs rs p.fail (w.setCell ⟨b, 1, none⟩ (.bool true)) := h.word h.st.failed.1 h.st.failed.2
theorem RS.swap (h : RS E T g b B w0 cs (pre ++ X ++ post) p w) (hf : Fr (b :: blks X) w w') (hs : WSt T b B p' w') (ho : OwnAll w' B X') (hn : ∀ k ∈ blks X', k ∈ blks X ∨ w.heap.size ≤ k) :
  RS E T g b B w0 cs (pre ++ X' ++ post) p' w' := by
 have hw := h.size
 have hB := h.bB
 have hgr := h.gr
 have hbr := h.br
 have hd := h.own.2
 rw [List.filterMap_append, List.filterMap_append] at hd
 rw [zCf, zCf] at hgr hbr
 have hX : ∀ k ∈ blks X, k ∈ blks (pre ++ X ++ post) := fun k hk => by rw [zCf, zCf]; exact List.mem_append_left _ (List.mem_append_right _ hk)
 have hgB := h.gB
 have hbB := h.st.1
 have hgl := h.g_lt
 have hbl := h.b_lt
 refine ⟨HasC.fr h.has hf (fun hm => ?_), OwnAll.swap h.own hf ho hn (fun k hk => ?_), hs, h.bel.trans (hf.below (fun k hk => ?_) (by omega)), h.bB, h.gB, h.gb, ?_, ?_⟩
 ·rcases List.mem_cons.1 hm with e | e
  ·exact h.gb e
  ·exact h.gr (hX _ e)
 ·rcases List.mem_cons.1 hk with e | e
  ·subst e
   exact ⟨fun hm => hbr (List.mem_append_left _ (List.mem_append_left _ hm)), fun hm => hbr (List.mem_append_right _ hm)⟩
  ·have h1 := List.nodup_append.1 hd
   have h2 := List.nodup_append.1 h1.1
   exact ⟨fun hm => h2.2.2 k hm k e rfl, fun hm => h1.2.2 k (List.mem_append_right _ e) k hm rfl⟩
 ·rcases List.mem_cons.1 hk with e | e
  ·omega
  ·exact (h.blt (hX k e)).2
 ·rw [zCf, zCf]
  intro hm
  rcases List.mem_append.1 hm with hm | hm
  ·rcases List.mem_append.1 hm with hm | hm
   ·exact hgr (List.mem_append_left _ (List.mem_append_left _ hm))
   ·rcases hn _ hm with e | e
    ·exact hgr (List.mem_append_left _ (List.mem_append_right _ e))
    ·omega
  ·exact hgr (List.mem_append_right _ hm)
 ·rw [zCf, zCf]
  intro hm
  rcases List.mem_append.1 hm with hm | hm
  ·rcases List.mem_append.1 hm with hm | hm
   ·exact hbr (List.mem_append_left _ (List.mem_append_left _ hm))
   ·rcases hn _ hm with e | e
    ·exact hbr (List.mem_append_left _ (List.mem_append_right _ e))
    ·omega
  ·exact hbr (List.mem_append_right _ hm)
theorem RS.row {r r' : Orow} (h : RS E T g b B w0 cs (pre ++ r :: post) p w) (hg : w.grownBy w' r.v.ownBlock) (ho : r'.own w' B) (hn : r'.v.ownBlock = r.v.ownBlock ∨ r'.v.ownBlock = none ∨ ∃ k, r'.v.ownBlock = some k ∧ w.heap.size ≤ k) :
  RS E T g b B w0 cs (pre ++ r' :: post) p w' := by
 have e : ∀ x : Orow, pre ++ x :: post = pre ++ [x] ++ post := fun x => by simp
 rw [e] at h ⊢
 have hx : ∀ k, r.v.ownBlock = some k → k ∈ blks (pre ++ [r] ++ post) := fun k hk => List.mem_filterMap.2 ⟨r, by simp, hk⟩
 have hbB := h.st.1
 refine h.swap (Fr.of_grown hg (fun k hk => List.mem_cons_of_mem _ (List.mem_filterMap.2 ⟨r, by simp, hk⟩))) (h.st.other hg (fun k hk => ⟨(h.blt (hx k hk)).2, fun e => h.br (by rw [← e]; exact hx k hk)⟩)) ⟨fun x hx => by obtain rfl := List.mem_singleton.1 hx; exact ho, ?_⟩ (fun k hk => ?_)
 ·rw [List.filterMap_cons]; split <;> simp
 ·obtain ⟨x, hx', hk'⟩ := List.mem_filterMap.1 hk
  obtain rfl := List.mem_singleton.1 hx'
  rcases hn with e' | e' | ⟨k', e', hk2⟩
  ·exact .inl (List.mem_filterMap.2 ⟨r, by simp, e'.symm.trans hk'⟩)
  ·rw [e'] at hk'; cases hk'
  ·rw [e'] at hk'; injection hk' with hk'; subst hk'; exact .inr hk2
end
end Go.Proofs.YtoceoaiokkbjeaaGreatDoor
