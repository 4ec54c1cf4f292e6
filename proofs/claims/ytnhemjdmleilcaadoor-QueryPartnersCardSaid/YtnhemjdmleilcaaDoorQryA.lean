/- The parser in memory, and the walks of its methods: accept, expect, next, prefix, number, place, ports (package query), is, word, take, prefix, number, place (the reference). Condition: no field is longer than 10^9 bytes. -/
import Derived.Test.YtnhemjdmleilcaaDoorQryS
import Derived.Test.YtnhemjdmleilcaaDoorScanE
import Derived.Lib.BufferMore
namespace Go.Proofs.YtnhemjdmleilcaaDoor
open Go.RowKit

/-- The parser p lies in block b (of type T); it and its fields lie below block G. -/
def PSt (T : TypeId) (b G : Nat) (p : Ps) (w : World) : Prop := b < G ∧ G ≤ w.heap.size ∧ ∃ v, w.heap[b]? = some (.cells #[v, .bool p.bad] T (0, 0)) ∧ Slc w G 1 v p.fs.length (p.fs.map strV) ∧ ∃ A c, v = .slice A p.fs.length c ∧ p.fs.length ≤ c

theorem grown_set (w : World) (b j : Nat) (u : Value) : w.grownBy (w.setCell ⟨b, j, none⟩ u) (some b) :=
  ⟨rfl, rfl, rfl, by simp [World.setCell], fun k _ hk => Below.heap_setCell _ _ _ k (fun e => hk (by rw [e]))⟩
theorem grown_below {w w' : World} {B : Nat} (hB : w.heap.size ≤ B) (h : Below B w w') (row : Option Nat) : w.grownBy w' row := ⟨h.os, h.tape, h.output, h.size, fun k hk _ => h.block k (by omega)⟩
theorem blk_lt {w : World} {b : Nat} {o : Obj} (h : w.heap[b]? = some o) : b < w.heap.size := by
  rcases Nat.lt_or_ge b w.heap.size with h' | h'
  · exact h'
  · rw [Array.getElem?_eq_none h'] at h; cases h
theorem Slc.grown {w w' : World} {B size n : Nat} {v : Value} {xs : List Value} (h : Slc w B size v n xs) {row : Option Nat} (hg : w.grownBy w' row)
    (hr : ∀ b, row = some b → ∀ g o c, v = .slice (some ⟨g, o, none⟩) n c → 0 < n → g ≠ b) : Slc w' B size v n xs := by
  obtain ⟨A, c, rfl, hm, hl, hA, h⟩ := h
  refine ⟨A, c, rfl, hm, hl, hA, fun hn => ?_⟩
  obtain ⟨g, o, rfl, hgB, hc⟩ := h hn
  refine ⟨g, o, rfl, hgB, fun j u hu => ?_⟩
  exact hg.cell (hc j u hu) (fun e => hr g e.symm g o c rfl hn rfl)
/-- The fields do not lie in the parser's own block. -/
theorem PSt.apart {T : TypeId} {b G : Nat} {p : Ps} {w : World} {v : Value} (hb : w.heap[b]? = some (.cells #[v, .bool p.bad] T (0, 0))) (hs : Slc w G 1 v p.fs.length (p.fs.map strV)) :
    ∀ g o c, v = .slice (some ⟨g, o, none⟩) p.fs.length c → 0 < p.fs.length → g ≠ b := by
  rintro g o c rfl hn rfl
  obtain ⟨A, c', e, hm, hl, hA, h⟩ := hs
  obtain ⟨g', o', rfl, hg, hc⟩ := h hn
  cases e
  obtain ⟨f, r, hf⟩ : ∃ f r, p.fs = f :: r := by
    cases hp : p.fs with
    | nil => rw [hp] at hn; exact absurd hn (by simp)
    | cons f r => exact ⟨f, r, rfl⟩
  have h0 := hc 0 (strV f) (by rw [hf]; rfl)
  rw [Lib.cell_of_heap hb] at h0
  match o, h0 with
  | 0, h0 => simp [strV] at h0
  | 1, h0 => simp [strV] at h0
  | k + 2, h0 => simp [strV] at h0
theorem PSt.keep {T : TypeId} {b G : Nat} {p : Ps} {w w' : World} (h : PSt T b G p w) (hb : Below G w w') : PSt T b G p w' := by
  obtain ⟨h1, h2, v, hv, hs, hc⟩ := h
  exact ⟨h1, Nat.le_trans h2 hb.size, v, (hb.block b h1).trans hv, hs.below hb, hc⟩
/-- The mark of a failure. -/
theorem PSt.failed {T : TypeId} {b G : Nat} {p : Ps} {w : World} (h : PSt T b G p w) : PSt T b G p.fail (w.setCell ⟨b, 1, none⟩ (.bool true)) ∧ w.grownBy (w.setCell ⟨b, 1, none⟩ (.bool true)) (some b) := by
  obtain ⟨h1, h2, v, hv, hs, hc⟩ := h
  have hg := grown_set w b 1 (.bool true)
  refine ⟨⟨h1, Nat.le_trans h2 hg.size, v, Lib.heap_setCell_same (i := 1) hv _, hs.grown hg ?_, hc⟩, hg⟩
  intro k hk g o c e hn
  cases hk
  exact PSt.apart hv hs g o c e hn
/-- The first field, and the parser without it. -/
theorem PSt.popped {T : TypeId} {b G : Nat} {f : List UInt8} {r : List (List UInt8)} {bad : Bool} {w : World} (h : PSt T b G ⟨f :: r, bad⟩ w) :
    ∃ g o c, w.heap[b]? = some (.cells #[.slice (some ⟨g, o, none⟩) (r.length + 1) c, .bool bad] T (0, 0)) ∧ w.cell? ⟨g, o, none⟩ = some (strV f) ∧ r.length + 1 ≤ c ∧ r.length + 1 ≤ maxLen ∧
      ∀ A', (c ≠ 1 → A' = some ⟨g, o + 1, none⟩) → A' ≠ none → PSt T b G ⟨r, bad⟩ (w.setCell ⟨b, 0, none⟩ (.slice A' r.length (c - 1))) ∧ w.grownBy (w.setCell ⟨b, 0, none⟩ (.slice A' r.length (c - 1))) (some b) := by
  obtain ⟨h1, h2, v, hv, hs, A, c, rfl, hc⟩ := h
  have hap := PSt.apart hv hs
  obtain ⟨A0, c0, e, hm, hl, hA, hx⟩ := hs
  cases e
  obtain ⟨g, o, rfl, hg, hcell⟩ := hx (by simp)
  have hgb : g ≠ b := hap g o c rfl (by simp)
  have hgr := fun u => grown_set w b 0 u
  refine ⟨g, o, c, hv, by simpa using hcell 0 (strV f) rfl, by simpa using hc, by simpa using hm, fun A' hA' hn => ⟨⟨h1, Nat.le_trans h2 (hgr _).size, _, Lib.heap_setCell_same (i := 0) hv _, ?_, A', c - 1, rfl, ?_⟩, hgr _⟩⟩
  · refine ⟨A', c - 1, rfl, ?_, by simp, fun h => absurd h hn, fun hr => ⟨g, o + 1, hA' ?_, hg, fun j u hu => ?_⟩⟩
    · simp only [List.length_cons] at hm; show r.length ≤ _; omega
    · simp only [List.length_cons] at hc; have : 0 < r.length := hr; omega
    · have := hcell (j + 1) u (by simpa using hu)
      refine (hgr _).cell (a := ⟨g, o + 1 + j, none⟩) ?_ (fun e => hgb (by injection e))
      rw [show o + 1 + j = o + (j + 1) from by omega]
      exact this
  · simp only [List.length_cons] at hc; show r.length ≤ _; omega
end Go.Proofs.YtnhemjdmleilcaaDoor
