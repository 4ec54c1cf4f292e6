/- Arguments that are a packet or a match: what the walks are told of them. No condition. -/
import Derived.Test.YtnhemjdmleilcaaDoorQryArgs
import Derived.Test.YtnhemjdmleilcaaDoorQryPd
namespace Go.Proofs.YtnhemjdmleilcaaDoor
open Go.RowKit Go.ChangeShapes Go.WideShapes Go.Deep
section
variable {H : Type} {enc : TypeId × Value → H} {w : World} {base : Nat} {spare : Nat → Bool} {held : Bool}
theorem mt_cells {fuel : Nat} {cs : List Value} {x : DataW H × List MemPlace} (hl : cs.length = 9) (h : DataW.trod enc Tryd.prog w base spare held fuel 28 cs = some x) : ∃ m : Mt, cs = m.C.toList ∧ m.fit := by
  obtain ⟨sa, sl, da, dl, proto, slo, shi, dlo, dhi, rfl, h1, h2⟩ := match_cells hl h
  exact ⟨⟨sa, sl, da, dl, proto, slo, shi, dlo, dhi⟩, rfl, h1, h2⟩
theorem pkt_cells {fuel : Nat} {cs : List Value} {x : DataW H × List MemPlace} (hl : cs.length = 5) (h : DataW.trod enc Tryd.prog w base spare held fuel 51 cs = some x) : ∃ p : Pk, cs = (KC p).toList ∧ p.fit := by
  obtain ⟨x0, x1, x2, x3, x4, rfl⟩ : ∃ x0 x1 x2 x3 x4, cs = [x0, x1, x2, x3, x4] := by
    match cs, hl with
    | [x0, x1, x2, x3, x4], _ => exact ⟨x0, x1, x2, x3, x4, rfl⟩
  obtain ⟨xs, n, _, _, _, hlen, hf⟩ := DataW.trod_struct Tryd.underlying51 h
  have hx : ∀ j, j < 5 → ∃ y, xs[j]? = some y := fun j hj => ⟨xs[j]'(by have : xs.length = 5 := hlen; omega), List.getElem?_eq_getElem _⟩
  have cu : Tryd.prog.cellsOf 22 = 1 := by kernel_rfl
  have ci : Tryd.prog.cellsOf 3 = 1 := by kernel_rfl
  obtain ⟨y0, e0⟩ := hx 0 (by decide)
  obtain ⟨y1, e1⟩ := hx 1 (by decide)
  obtain ⟨y2, e2⟩ := hx 2 (by decide)
  obtain ⟨y3, e3⟩ := hx 3 (by decide)
  obtain ⟨y4, e4⟩ := hx 4 (by decide)
  have g0 : DataW.trod enc Tryd.prog w base spare held n 22 (([x0, x1, x2, x3, x4].drop 0).take (Tryd.prog.cellsOf 22)) = xs[0]? := hf 0 _ rfl
  have g1 : DataW.trod enc Tryd.prog w base spare held n 22 (([x0, x1, x2, x3, x4].drop 1).take (Tryd.prog.cellsOf 22)) = xs[1]? := hf 1 _ rfl
  have g2 : DataW.trod enc Tryd.prog w base spare held n 3 (([x0, x1, x2, x3, x4].drop 2).take (Tryd.prog.cellsOf 3)) = xs[2]? := hf 2 _ rfl
  have g3 : DataW.trod enc Tryd.prog w base spare held n 3 (([x0, x1, x2, x3, x4].drop 3).take (Tryd.prog.cellsOf 3)) = xs[3]? := hf 3 _ rfl
  have g4 : DataW.trod enc Tryd.prog w base spare held n 3 (([x0, x1, x2, x3, x4].drop 4).take (Tryd.prog.cellsOf 3)) = xs[4]? := hf 4 _ rfl
  rw [cu] at g0 g1
  rw [ci] at g2 g3 g4
  replace g0 : DataW.trod enc Tryd.prog w base spare held n 22 [x0] = some y0 := g0.trans e0
  replace g1 : DataW.trod enc Tryd.prog w base spare held n 22 [x1] = some y1 := g1.trans e1
  replace g2 : DataW.trod enc Tryd.prog w base spare held n 3 [x2] = some y2 := g2.trans e2
  replace g3 : DataW.trod enc Tryd.prog w base spare held n 3 [x3] = some y3 := g3.trans e3
  replace g4 : DataW.trod enc Tryd.prog w base spare held n 3 [x4] = some y4 := g4.trans e4
  obtain ⟨n0, h0, _, w0⟩ := DataW.trod_int Tryd.underlying22 g0
  obtain ⟨n1, h1, _, w1⟩ := DataW.trod_int Tryd.underlying22 g1
  obtain ⟨n2, h2, _, _⟩ := DataW.trod_int Tryd.underlying3 g2
  obtain ⟨n3, h3, _, _⟩ := DataW.trod_int Tryd.underlying3 g3
  obtain ⟨n4, h4, _, _⟩ := DataW.trod_int Tryd.underlying3 g4
  simp only [List.cons.injEq, and_true] at h0 h1 h2 h3 h4
  subst h0 h1 h2 h3 h4
  obtain ⟨a0, rfl, u0⟩ := u32_of w0
  obtain ⟨a1, rfl, u1⟩ := u32_of w1
  exact ⟨⟨a0, a1, n2, n3, n4⟩, rfl, u0, u1⟩
end
end Go.Proofs.YtnhemjdmleilcaaDoor
