/- A query as a whole, out of and into a block: the laws of the operations load and store at its type; the result that lies in a block. No condition. -/
import Derived.Test.YtnhemjdmleilcaaDoorQryF
import Derived.Deep.MidRow
namespace Go.Proofs.YtnhemjdmleilcaaDoor
open Go.RowKit

theorem Tryd.rowQ : (Tryd.prog.underlying 30).map TypeDesc.isRow = some true := by kernel_rfl
theorem Tryd.sizeQ : (Tryd.prog.info? 30).map (·.size) = some 20 := by kernel_rfl
theorem row_of {P : Program} {t : TypeId} (h : (P.underlying t).map TypeDesc.isRow = some true) : ∃ d, P.underlying t = some d ∧ d.isRow = true := by
  cases hu : P.underlying t with
  | none => rw [hu] at h; cases h
  | some d => exact ⟨d, rfl, by rw [hu] at h; simpa using h⟩
theorem QC_size (q : Qr) : (QC q).size = 20 := rfl
theorem QC_one (q : Qr) : (QC q).all (·.oneCell') = true := by
  rw [Array.all_eq_true_iff_forall_mem]
  intro v hv
  simp only [QC, List.mem_toArray, List.mem_cons, List.not_mem_nil, or_false] at hv
  rcases hv with rfl | rfl | rfl | rfl | rfl | rfl | rfl | rfl | rfl | rfl | rfl | rfl | rfl | rfl | rfl | rfl | rfl | rfl | rfl | rfl <;> rfl
theorem HasQ.range {g : Nat} {q : Qr} {w : World} (h : HasQ g q w) : w.rangeAt g 0 (QC q).toList := by
  intro j v hv
  rw [Nat.zero_add, h.cell j, ← hv]
  simp
theorem HasQ.there {g : Nat} {q : Qr} {w : World} (h : HasQ g q w) : w.there g 0 20 := by
  intro j hj
  rw [Nat.zero_add]
  refine ⟨?_, h.frz j⟩
  rw [h.cell j, Array.getElem?_eq_getElem (by rw [QC_size]; exact hj)]
  rfl
theorem HasQ.load {g : Nat} {q : Qr} {w : World} (h : HasQ g q w) : (loadVar 30 ⟨g, 0, none⟩).run Tryd.prog w = .ok (QV q) w := by
  obtain ⟨d, hu, hd⟩ := row_of Tryd.rowQ
  have := run_loadVar_mid (P := Tryd.prog) w g 0 30 (QC q).toList d h.range hu hd Tryd.sizeQ
  simpa [QV_eq] using this
theorem wpList_loadQ {ops : Array Oper} {rest : List Oper} {o : Oper} {a : Act} {w : World} {Q : Exit → Act → World → Prop} (hgd : o.guard = none) (x : Operand) (ho : o.op = .load 30 x)
    {g : Nat} {q : Qr} (hx : a.eval x = .pointer (some ⟨g, 0, none⟩)) (hq : HasQ g q w) (h : wpList Tryd.prog ops Q rest (a.put o.dst (QV q)) w) : wpList Tryd.prog ops Q (o :: rest) a w := by
  obtain ⟨d, hu, hd⟩ := row_of Tryd.rowQ
  refine wpList_load_mid hgd 30 x ho g 0 hx (QC q).toList d hq.range hu hd Tryd.sizeQ ?_
  simpa [QV_eq] using h

/-- Values into the cells from offset o on. -/
def setAll (cs : Array Value) : Nat → List Value → Array Value
  | _, [] => cs
  | o, v :: r => setAll (cs.setIfInBounds o v) (o + 1) r
theorem heap_setCells_same {g : Nat} {T : TypeId} {fz : Nat × Nat} : ∀ (vs : List Value) (o : Nat) (cs : Array Value) (w : World), w.heap[g]? = some (.cells cs T fz) → (w.setCells g o vs).heap[g]? = some (.cells (setAll cs o vs) T fz)
  | [], _, _, _, h => h
  | v :: r, o, cs, w, h => by
    unfold World.setCells setAll
    exact heap_setCells_same r (o + 1) _ _ (Lib.heap_setCell_same (i := o) h v)
theorem grown_setCells (g : Nat) : ∀ (vs : List Value) (o : Nat) (w : World), w.grownBy (w.setCells g o vs) (some g)
  | [], _, _ => World.grownBy.refl _ _
  | v :: r, o, w => by
    unfold World.setCells
    exact (grown_set w g o v).trans (grown_setCells g r (o + 1) _)
theorem HasQ.stored {g : Nat} {q : Qr} {w : World} (h : HasQ g q w) (q' : Qr) : HasQ g q' (w.setCells g 0 (QC q').toList) := by
  unfold HasQ at h ⊢
  rw [heap_setCells_same _ 0 _ _ h]
  have e : setAll (QC q) 0 (QC q').toList = QC q' := by simp only [QC, setAll, List.setIfInBounds_toArray, List.set, Nat.zero_add, Nat.reduceAdd]
  rw [e]
theorem wpList_storeQ {ops : Array Oper} {rest : List Oper} {o : Oper} {a : Act} {w : World} {Q : Exit → Act → World → Prop} (hgd : o.guard = none) (x y : Operand) (ho : o.op = .store 30 x y)
    {g : Nat} {q q' : Qr} (hx : a.eval x = .pointer (some ⟨g, 0, none⟩)) (hy : a.eval y = QV q') (hq : HasQ g q w)
    (h : ∀ w', HasQ g q' w' → w.grownBy w' (some g) → wpList Tryd.prog ops Q rest (a.put o.dst undef) w') : wpList Tryd.prog ops Q (o :: rest) a w :=
  wpList_store_mid hgd 30 x y ho g 0 (QC q') hx (hy.trans (QV_eq _)) hq.there Tryd.sizeQ (QC_one q') (h _ (hq.stored q') (grown_setCells _ _ _ _))
/-- A result that lies in a block. -/
theorem results_cell {P : Program} {fn : Func} {tmps : Array Value} {w : World} {k : Nat} {T : TypeId} {g : Addr} {v : Value} (hf : fn.results = #[.cell k T]) (hk : tmps.getD k undef = .pointer (some g))
    (hl : (loadVar T g).run P w = .ok v w) : (results fn tmps).run P w = .ok v w := by
  rw [Array.getD_eq_getD_getElem?] at hk
  unfold results
  simp [hf, hk, asAddr, hl]
/-- Two results, the first in a block. -/
theorem results_cell2 {P : Program} {fn : Func} {tmps : Array Value} {w : World} {k j : Nat} {T : TypeId} {g : Addr} {v u : Value} (hf : fn.results = #[.cell k T, .tmp j]) (hk : tmps.getD k undef = .pointer (some g))
    (hj : tmps.getD j undef = u) (hl : (loadVar T g).run P w = .ok v w) : (results fn tmps).run P w = .ok (.tuple #[v, u]) w := by
  rw [Array.getD_eq_getD_getElem?] at hk hj
  unfold results
  simp [hf, hk, hj, asAddr, hl]
end Go.Proofs.YtnhemjdmleilcaaDoor
