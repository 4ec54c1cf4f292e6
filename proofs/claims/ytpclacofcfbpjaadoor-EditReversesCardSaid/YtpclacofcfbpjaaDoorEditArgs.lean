/- An argument that is a slice of edits, or one edit: what the walks are told of it. No condition. -/
import Derived.Test.YtpclacofcfbpjaaDoorEditV
import Derived.Deep.Slices
import Derived.Lib.SmallJoins
import Derived.ChangeSame
namespace Go.Proofs.YtpclacofcfbpjaaDoor
open Go.RowKit Go.ChangeShapes Go.WideShapes Go.Deep

theorem wfI_of {n : Int} (h : (Lit.int .i64 n).wf = true) : wfI n := by
  have h2 : -9223372036854775808 ≤ n ∧ n ≤ 9223372036854775807 := by simpa [Lit.wf, IntKind.min, IntKind.max, IntKind.signed, IntKind.bits] using h
  exact h2
theorem four_list {α : Type} {l : List α} (h : l.length = 4) : ∃ a b c d, l = [a, b, c, d] := by
  match l, h with
  | [a, b, c, d], _ => exact ⟨a, b, c, d, rfl⟩
section
variable {H : Type} {enc : TypeId × Value → H} {w : World} {base : Nat} {spare : Nat → Bool} {held : Bool}
/-- The four cells of an edit. -/
theorem ed_cells {fuel : Nat} {cs : List Value} {x : DataW H × List MemPlace} (hl : cs.length = 4) (h : DataW.trod enc Tryd.prog w base spare held fuel 32 cs = some x) : ∃ e : Ed, cs = edCells e ∧ edWf e ∧ e.text.length ≤ maxLen := by
  obtain ⟨a, b, c, d, rfl⟩ := four_list hl
  obtain ⟨xs, n, _, _, _, hlen, hf⟩ := DataW.trod_struct Tryd.underlying32 h
  have hc3 : Tryd.prog.cellsOf 3 = 1 := by kernel_rfl
  have hc9 : Tryd.prog.cellsOf 9 = 1 := by kernel_rfl
  have g0 : DataW.trod enc Tryd.prog w base spare held n 3 (([a, b, c, d].drop 0).take (Tryd.prog.cellsOf 3)) = xs[0]? := hf 0 _ rfl
  rw [hc3] at g0
  replace g0 : DataW.trod enc Tryd.prog w base spare held n 3 [a] = xs[0]? := g0
  have g1 : DataW.trod enc Tryd.prog w base spare held n 3 (([a, b, c, d].drop 1).take (Tryd.prog.cellsOf 3)) = xs[1]? := hf 1 _ rfl
  rw [hc3] at g1
  replace g1 : DataW.trod enc Tryd.prog w base spare held n 3 [b] = xs[1]? := g1
  have g2 : DataW.trod enc Tryd.prog w base spare held n 3 (([a, b, c, d].drop 2).take (Tryd.prog.cellsOf 3)) = xs[2]? := hf 2 _ rfl
  rw [hc3] at g2
  replace g2 : DataW.trod enc Tryd.prog w base spare held n 3 [c] = xs[2]? := g2
  have g3 : DataW.trod enc Tryd.prog w base spare held n 9 (([a, b, c, d].drop 3).take (Tryd.prog.cellsOf 9)) = xs[3]? := hf 3 _ rfl
  rw [hc9] at g3
  replace g3 : DataW.trod enc Tryd.prog w base spare held n 9 [d] = xs[3]? := g3
  have hx : ∀ j, j < 4 → ∃ y, xs[j]? = some y := fun j hj => ⟨xs[j]'(by have : xs.length = 4 := hlen; omega), List.getElem?_eq_getElem _⟩
  obtain ⟨y0, e0⟩ := hx 0 (by decide)
  obtain ⟨y1, e1⟩ := hx 1 (by decide)
  obtain ⟨y2, e2⟩ := hx 2 (by decide)
  obtain ⟨y3, e3⟩ := hx 3 (by decide)
  obtain ⟨n0, h0, _, w0⟩ := DataW.trod_int Tryd.underlying3 (g0.trans e0)
  obtain ⟨n1, h1, _, w1⟩ := DataW.trod_int Tryd.underlying3 (g1.trans e1)
  obtain ⟨n2, h2, _, w2⟩ := DataW.trod_int Tryd.underlying3 (g2.trans e2)
  obtain ⟨s3, h3, _, w3⟩ := DataW.trod_string Tryd.underlying9 (g3.trans e3)
  simp only [List.cons.injEq, and_true] at h0 h1 h2 h3
  subst h0 h1 h2 h3
  exact ⟨⟨n0, n1, n2, bytes s3⟩, by simp [edCells, strV, str_bytes], ⟨wfI_of w0, wfI_of w1, wfI_of w2⟩, by rw [bytes_len]; exact w3⟩
/-- A slice of edits. -/
theorem open_edits {fuel : Nat} {a : Option Addr} {len cap : Nat} {x : DataW H × List MemPlace} (h : DataW.trod enc Tryd.prog w base spare held fuel 29 [.slice a len cap] = some x) :
    ∃ es, EL w w.heap.size (.slice a len cap) es ∧ ∀ x ∈ es, edWf x := by
  rcases open_slice Tryd.underlying29 h with ⟨hcs, _⟩ | ⟨ad, l, c, m, n, D, Pl, hcs, _, hl, hm, hmm, _, hi⟩
  · simp only [List.cons.injEq, and_true, Value.slice.injEq] at hcs
    obtain ⟨rfl, rfl, rfl⟩ := hcs
    exact ⟨[], ⟨none, 0, rfl, by simp, Slc.nil⟩, fun x hx => by cases hx⟩
  · simp only [List.cons.injEq, and_true, Value.slice.injEq] at hcs
    obtain ⟨rfl, rfl, rfl⟩ := hcs
    have hC : Tryd.prog.cellsOf 32 = 4 := by kernel_rfl
    have hlm : len ≤ m := by rw [hmm]; split <;> omega
    have hex : ∀ i, i < len → ∃ e : Ed, (∀ j u, (edCells e)[j]? = some u → w.cell? (ad.add (i * 4 + j)) = some u) ∧ edWf e := by
      intro i hil
      obtain ⟨cs', h1, h2⟩ := hi i (by omega)
      rw [hC] at h1
      obtain ⟨_, hcl, hat⟩ := World.cells?_some h1
      obtain ⟨e, rfl, hw, _⟩ := ed_cells hcl h2
      refine ⟨e, fun j u hu => ?_, hw⟩
      have hj : j < 4 := by
        rcases Nat.lt_or_ge j 4 with h | h
        · exact h
        · rw [List.getElem?_eq_none (by simpa [edCells] using h)] at hu; cases hu
      rw [← Go.Deep.add_add, hat j hj, hu]
    obtain ⟨E, hE⟩ : ∃ E : Nat → Ed, ∀ i, i < len → (∀ j u, (edCells (E i))[j]? = some u → w.cell? (ad.add (i * 4 + j)) = some u) ∧ edWf (E i) := by
      refine ⟨fun i => if h : i < len then (hex i h).choose else ⟨0, 0, 0, []⟩, fun i hil => ?_⟩
      simp only [hil, dif_pos]
      exact (hex i hil).choose_spec
    have hlen : ((List.range len).map E).length = len := by simp
    refine ⟨(List.range len).map E, ⟨some ad, cap, by rw [hlen], by rw [hlen]; exact hl, some ad, cap, rfl, by rw [hlen]; omega, by rw [ed_len], fun h => (by cases h), fun hn => ?_⟩, fun x hx => ?_⟩
    · rw [hlen] at hn
      obtain ⟨g, o, s⟩ := ad
      have c0 := (hE 0 hn).1 0 _ rfl
      have hs : s = none := by simpa [Addr.add] using World.cell?_spot c0
      subst hs
      refine ⟨g, o, rfl, ?_, fun j u hu => ?_⟩
      · exact World.block_lt_of_cell? w _ (by simpa [Addr.add] using c0)
      · have hjl : j < len * 4 := by
          have := (List.getElem?_eq_some_iff.1 hu).1
          rw [ed_len, hlen] at this
          exact this
        have hq : j / 4 < ((List.range len).map E).length := by rw [hlen]; omega
        obtain ⟨f0, f1, f2, f3⟩ := ed_flat _ (j / 4) hq
        have hg : ((List.range len).map E)[j / 4] = E (j / 4) := by simp
        rw [hg] at f0 f1 f2 f3
        have hcell := (hE (j / 4) (by omega)).1
        have hw : ∀ r, j = j / 4 * 4 + r → ∀ u', (edCells (E (j / 4)))[r]? = some u' → (((List.range len).map E).flatMap edCells)[j / 4 * 4 + r]? = some u' → w.cell? ⟨g, o + j, none⟩ = some u := by
          intro r hr u' hu' hf
          rw [← hr, hu] at hf
          injection hf with hf
          subst hf
          have := hcell r u hu'
          rw [← hr, addr_add] at this
          exact this
        rcases (show j % 4 = 0 ∨ j % 4 = 1 ∨ j % 4 = 2 ∨ j % 4 = 3 by omega) with h | h | h | h
        · exact hw 0 (by omega) _ rfl f0
        · exact hw 1 (by omega) _ rfl f1
        · exact hw 2 (by omega) _ rfl f2
        · exact hw 3 (by omega) _ rfl f3
    · obtain ⟨i, hi, rfl⟩ := List.mem_map.1 hx
      exact (hE i (List.mem_range.1 hi)).2
end
end Go.Proofs.YtpclacofcfbpjaaDoor
