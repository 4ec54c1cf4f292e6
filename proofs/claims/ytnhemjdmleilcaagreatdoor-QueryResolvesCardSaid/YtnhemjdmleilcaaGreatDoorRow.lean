/- Rows of cells of any type: loads and stores as a whole; guarded operations; stronger conditions behind a step of a drawn region. No condition. -/
import Derived.Test.YtnhemjdmleilcaaGreatDoorMQry
import Derived.Great.Walk
import Derived.Great.BuildSlice
import Derived.Deep.RegionHeld3
namespace Go.Proofs.YtnhemjdmleilcaaGreatDoor
open Go.RowKit

/-- An operation whose guard lets it by is as one without a guard. -/
theorem wpList_unguard {P : Program} {ops : Array Oper} {rest : List Oper} {o : Oper} {a : Act} {w : World} {Q : Exit → Act → World → Prop} (hw : Region.wanted o (yielded ops a.tmps) = true)
    (h : wpList P ops Q ({ o with guard := none } :: rest) a w) : wpList P ops Q (o :: rest) a w := by
  unfold wpList at h ⊢
  rw [if_pos hw]
  rw [if_pos (show Region.wanted { o with guard := none } (yielded ops a.tmps) = true from rfl)] at h
  exact h
/-- Behind a step more may be held than ahead of it. -/
theorem wpAnyH_more {P : Program} {md : Region.Mode} {ops : Array Oper} {Q : Exit → Act → World → Prop} {S S' : World → Prop} (hS : ∀ w, S' w → S w) :
    ∀ (fuel : Nat) (listed : Array Bool) (a : Act) (w : World), wpAnyH P md ops Q S' fuel listed a w → wpAnyH P md ops Q S fuel listed a w
  | 0, _, _, _, h => h
  | fuel + 1, _, _, _, h => ⟨h.1, fun i hi => wpOp_mono (fun a' w' h' => ⟨hS _ h'.1, wpAnyH_more hS fuel _ a' w' h'.2⟩) (h.2 i hi)⟩
/-- Block g holds the cells cs of type T. -/
def HasC (T : TypeId) (g : Nat) (cs : Array Value) (w : World) : Prop := w.heap[g]? = some (.cells cs T (0, 0))
theorem HasC.cell {T : TypeId} {g : Nat} {cs : Array Value} {w : World} (h : HasC T g cs w) (j : Nat) : w.cell? ⟨g, j, none⟩ = cs[j]? := Lib.cell_of_heap h j
theorem HasC.frz {T : TypeId} {g : Nat} {cs : Array Value} {w : World} (h : HasC T g cs w) (j : Nat) : w.frozen? ⟨g, j, none⟩ = false := Lib.frozen_of_heap h j
theorem HasC.below {T : TypeId} {g B : Nat} {cs : Array Value} {w w' : World} (h : HasC T g cs w) (hb : Below B w w') (hg : g < B) : HasC T g cs w' := (hb.block g hg).trans h
theorem HasC.keep {T : TypeId} {g : Nat} {cs : Array Value} {w w' : World} (h : HasC T g cs w) (hb : Below w.heap.size w w') : HasC T g cs w' := h.below hb (blk_lt h)
theorem HasC.grown {T : TypeId} {g : Nat} {cs : Array Value} {w w' : World} (h : HasC T g cs w) {row : Option Nat} (hg : w.grownBy w' row) (hr : some g ≠ row) : HasC T g cs w' := (hg.block g (blk_lt h) hr).trans h
theorem HasC.new (w : World) (T : TypeId) (cs : Array Value) : HasC T w.heap.size cs (w.alloc (.cells cs T)) := heap_alloc_new w _
theorem HasC.range {T : TypeId} {g : Nat} {cs : Array Value} {w : World} (h : HasC T g cs w) : w.rangeAt g 0 cs.toList := fun j v hv => by
  rw [Nat.zero_add, h.cell j]
  simpa using hv
theorem HasC.there {T : TypeId} {g : Nat} {cs : Array Value} {w : World} (h : HasC T g cs w) : w.there g 0 cs.size := by
  intro j hj
  rw [Nat.zero_add]
  refine ⟨?_, h.frz j⟩
  rw [h.cell j, Array.getElem?_eq_getElem hj]
  rfl
theorem setAll_get : ∀ (vs : List Value) (o : Nat) (cs : Array Value) (k : Nat), (setAll cs o vs)[k]? = if o ≤ k ∧ k < o + vs.length ∧ k < cs.size then vs[k - o]? else cs[k]?
  | [], o, cs, k => by
    rw [if_neg (by simp; omega)]
    rfl
  | v :: r, o, cs, k => by
    unfold setAll
    rw [setAll_get r (o + 1) _ k, Array.size_setIfInBounds]
    by_cases h1 : o = k
    · subst h1
      rw [if_neg (by omega)]
      by_cases h2 : o < cs.size
      · rw [if_pos ⟨Nat.le_refl _, by simp, h2⟩, Array.getElem?_setIfInBounds_self_of_lt h2]
        simp
      · rw [if_neg (by omega), Array.getElem?_eq_none (by simp; omega), Array.getElem?_eq_none (by omega)]
    · rw [Array.getElem?_setIfInBounds_ne h1]
      by_cases h2 : o + 1 ≤ k ∧ k < o + 1 + r.length ∧ k < cs.size
      · rw [if_pos h2, if_pos (by simp only [List.length_cons]; omega), show k - o = (k - (o + 1)) + 1 from by omega]
        rfl
      · rw [if_neg h2, if_neg (by simp only [List.length_cons]; omega)]
theorem setAll_full {cs ds : Array Value} (h : cs.size = ds.size) : setAll cs 0 ds.toList = ds := by
  apply Array.ext_getElem?
  intro k
  rw [setAll_get]
  by_cases hk : k < ds.size
  · rw [if_pos (by simp; omega)]
    simp
  · rw [if_neg (by simp; omega), Array.getElem?_eq_none (by omega), Array.getElem?_eq_none (by omega)]
theorem HasC.stored {T : TypeId} {g : Nat} {cs : Array Value} {w : World} (h : HasC T g cs w) {ds : Array Value} (hs : cs.size = ds.size) : HasC T g ds (w.setCells g 0 ds.toList) := by
  unfold HasC at h ⊢
  rw [heap_setCells_same _ 0 _ _ h, setAll_full hs]
section
variable {P : Program} {ops : Array Oper} {rest : List Oper} {o : Oper} {a : Act} {w : World} {Q : Exit → Act → World → Prop}
/-- A row of cells as a whole, out of a block. -/
theorem wpList_loadRow (hgd : o.guard = none) (T : TypeId) (x : Operand) (ho : o.op = .load T x)
    {g f : Nat} {cs : Array Value} (hx : a.eval x = .pointer (some ⟨g, f, none⟩)) (hq : w.rangeAt g f cs.toList) (hr : (P.underlying T).map TypeDesc.isRow = some true) (hs : (P.info? T).map (·.size) = some cs.size)
    (h : wpList P ops Q rest (a.put o.dst (.agg cs)) w) : wpList P ops Q (o :: rest) a w := by
  obtain ⟨d, hu, hd⟩ := row_of hr
  refine wpList_load_mid hgd T x ho g f hx cs.toList d hq hu hd (by simpa using hs) ?_
  simpa using h
/-- A row of cells as a whole, into a block. -/
theorem wpList_storeRow (hgd : o.guard = none) (T : TypeId) (x y : Operand) (ho : o.op = .store T x y)
    {g : Nat} {U : TypeId} {cs ds : Array Value} (hx : a.eval x = .pointer (some ⟨g, 0, none⟩)) (hy : a.eval y = .agg ds) (hq : HasC U g cs w) (hc : cs.size = ds.size) (hs : (P.info? T).map (·.size) = some ds.size) (h1 : ds.all (·.oneCell') = true)
    (h : ∀ w', HasC U g ds w' → w.grownBy w' (some g) → wpList P ops Q rest (a.put o.dst undef) w') : wpList P ops Q (o :: rest) a w :=
  wpList_store_mid hgd T x y ho g 0 ds hx hy (hc ▸ hq.there) hs h1 (h _ (hq.stored hc) (grown_setCells _ _ _ _))
theorem yieldsRow {S : World → Prop} (hw : Region.wanted o (yielded ops a.tmps) = true) (T : TypeId) (x : Operand) (ho : o.op = .load T x) {g f : Nat} {cs : Array Value}
    (hx : a.eval x = .pointer (some ⟨g, f, none⟩)) (hS : ∀ w, S w → w.rangeAt g f cs.toList) (hr : (P.underlying T).map TypeDesc.isRow = some true) (hs : (P.info? T).map (·.size) = some cs.size) : YieldsIf P ops S o (.agg cs) a := by
  obtain ⟨d, hu, hd⟩ := row_of hr
  have := yieldsIf_load_mid (P := P) (ops := ops) (S := S) hw T x ho g f hx cs.toList d hS hu hd (by simpa using hs)
  simpa using this
end
/-- What a block that was just made leaves as it was. -/
theorem new_below {w w' : World} {o : Obj} (hg : (w.alloc o).grownBy w' (some w.heap.size)) : Below w.heap.size w w' :=
  ((Below.refl w.heap.size w).alloc (Nat.le_refl _) o).trans (below_of_grown hg (Nat.le_refl _) (by simp))
theorem rangeBelow {w w' : World} {B g o : Nat} {xs : List Value} (h : w.rangeAt g o xs) (hb : Below B w w') (hg : g < B) : w'.rangeAt g o xs := fun j v hv => (hb.cell (p := ⟨g, o + j, none⟩) hg).trans (h j v hv)
/-- A slice whose elements are rows of cells. -/
def SlV {α : Type} (w : World) (B n : Nat) (cells : α → Array Value) (v : Value) (xs : List α) : Prop :=
  ∃ A c, v = .slice A xs.length c ∧ xs.length ≤ c ∧ Slc w B n (.slice A xs.length c) xs.length (xs.flatMap fun x => (cells x).toList)
theorem SlV.below {α : Type} {w w' : World} {B n : Nat} {cells : α → Array Value} {v : Value} {xs : List α} (h : SlV w B n cells v xs) (hb : Below B w w') : SlV w' B n cells v xs := by
  obtain ⟨A, c, rfl, h1, h2⟩ := h
  exact ⟨A, c, rfl, h1, h2.below hb⟩
theorem SlV.nil {α : Type} {w : World} {B n : Nat} {cells : α → Array Value} : SlV w B n cells (.slice none 0 0) ([] : List α) := ⟨none, 0, rfl, Nat.le_refl _, Slc.nil⟩
theorem SlV.len {α : Type} {w : World} {B n : Nat} {cells : α → Array Value} {v : Value} {xs : List α} (h : SlV w B n cells v xs) : xs.length ≤ maxLen := by
  obtain ⟨A, c, rfl, h1, A', c', e, h2, _⟩ := h
  exact h2
end Go.Proofs.YtnhemjdmleilcaaGreatDoor
