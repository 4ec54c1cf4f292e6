/- The state in the middle of the walk of the parser's method query: the query's own block, the result's, the parser. -/
import Derived.Test.YtnhemjdmleilcaaDoorQryE
namespace Go.Proofs.YtnhemjdmleilcaaDoor
open Go.RowKit

/-- w0: the world at the entry; the result lies in block w0.heap.size, the query behind it. -/
structure Mid (T : TypeId) (b G B : Nat) (w0 : World) (x : St) (w : World) : Prop where
  q : HasQ (w0.heap.size + 1) x.1 w
  r : HasQ w0.heap.size Qr.zero w
  p : PSt T b G x.2 w
  g : w0.grownBy w (some b)
  e : EnvB B w
  s : x.2.short
  o : B ≤ b ∧ b < G ∧ G ≤ w0.heap.size

theorem Mid.call {T : TypeId} {b G B : Nat} {w0 w w' : World} {x : St} (m : Mid T b G B w0 x w) {p' : Ps} (hp : PSt T b G p' w') (hg : w.grownBy w' (some b)) (hs : p'.short) : Mid T b G B w0 (x.1, p') w' := by
  obtain ⟨h1, h2, h3⟩ := m.o
  have hw : w0.heap.size ≤ w.heap.size := m.g.size
  exact ⟨m.q.grown hg (fun e => by injection e; omega), m.r.grown hg (fun e => by injection e; omega), hp, m.g.trans hg, m.e.keep (below_of_grown hg h1 (by omega)), hs, m.o⟩
theorem Mid.put {T : TypeId} {b G B : Nat} {w0 w : World} {x : St} (m : Mid T b G B w0 x w) {q' : Qr} {j : Nat} (v : Value) (e : (QC x.1).setIfInBounds j v = QC q') : Mid T b G B w0 (q', x.2) (w.setCell ⟨w0.heap.size + 1, j, none⟩ v) := by
  obtain ⟨h1, h2, h3⟩ := m.o
  have hb : Below w0.heap.size w (w.setCell ⟨w0.heap.size + 1, j, none⟩ v) := (Below.refl _ _).setCell (p := ⟨w0.heap.size + 1, j, none⟩) (by show _ ≤ w0.heap.size + 1; omega) v
  exact ⟨m.q.put v e, m.r.other v (by omega), m.p.keep (hb.mono h3), grown_tail m.g hb, m.e.keep (hb.mono (by omega)), m.s, m.o⟩

theorem short_fail {p : Ps} (h : p.short) : p.fail.short := h
theorem short_acc {p : Ps} (s : List UInt8) (h : p.short) : (accS s p).short := by
  unfold accS; split
  · exact short_tail h
  · exact h
theorem short_exp {p : Ps} (s : List UInt8) (h : p.short) : (expS s p).short := by
  unfold expS; split
  · exact short_tail h
  · exact h
theorem short_pfx {p : Ps} (h : p.short) : (pfxS p).short := by
  unfold pfxS; split <;> exact short_nxt h
theorem short_num {p : Ps} (h : p.short) : (numS p).short := by
  unfold numS; split <;> exact short_nxt h
theorem short_plc {p : Ps} (h : p.short) : (plcS p).short := by
  unfold plcS; split
  · exact short_nxt (short_acc _ (short_nxt h))
  · exact short_nxt h
theorem short_port {p : Ps} (s : List UInt8) (h : p.short) : (portS s p).short := by
  unfold portS; split
  · exact short_num (short_num (short_acc _ h))
  · exact h
theorem short_kind {p : Ps} (h : p.short) : (stKind p).2.short := by
  unfold stKind; dsimp only; split <;> exact short_nxt h
theorem Mid.start {T : TypeId} {b G B : Nat} {p : Ps} {w : World} (h : PSt T b G p w) (he : EnvB B w) (hB : B ≤ b) (hs : p.short) :
    Mid T b G B w (Qr.zero, p) ((w.alloc (.cells (QC Qr.zero) 30)).alloc (.cells (QC Qr.zero) 30)) := by
  have h1 := h.1
  have h2 := h.2.1
  have hb : Below w.heap.size w ((w.alloc (.cells (QC Qr.zero) 30)).alloc (.cells (QC Qr.zero) 30)) := ((Below.refl _ w).alloc (Nat.le_refl _) _).alloc (by simp) _
  refine ⟨?_, ?_, h.keep (hb.mono h2), grown_below (Nat.le_refl _) hb _, he.keep (hb.mono (by omega)), hs, hB, h1, h2⟩
  · have := heap_alloc_new (w.alloc (.cells (QC Qr.zero) 30)) (.cells (QC Qr.zero) 30)
    simpa [HasQ] using this
  · unfold HasQ
    rw [Below.heap_alloc _ _ _ (by simp)]
    exact heap_alloc_new w _
end Go.Proofs.YtnhemjdmleilcaaDoor
