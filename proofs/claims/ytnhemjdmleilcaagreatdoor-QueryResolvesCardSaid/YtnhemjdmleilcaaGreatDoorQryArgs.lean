/- An argument that is a query, a match or a packet: what the walks are told of it. No condition. -/
import Derived.Test.YtnhemjdmleilcaaGreatDoorQryH
import Derived.ChangeSame
import Derived.Deep.Slices
import Derived.Lib.SmallJoins
namespace Go.Proofs.YtnhemjdmleilcaaGreatDoor
open Go.RowKit Go.ChangeShapes Go.WideShapes Go.Deep

theorem u32_of {a : Int} (h : (Lit.int .u32 a).wf = true) : ∃ n : Nat, a = (n : Int) ∧ n < 4294967296 := by
  have h2 : 0 ≤ a ∧ a ≤ 4294967295 := by simpa [Lit.wf, IntKind.min, IntKind.max, IntKind.signed, IntKind.bits] using h
  exact ⟨a.toNat, by omega, by omega⟩
section
variable {H : Type} {enc : TypeId × Value → H} {w : World} {base : Nat} {spare : Nat → Bool} {held : Bool}
theorem pfx_cells {fuel : Nat} {cs : List Value} {x : DataW H × List MemPlace} (hl : cs.length = 2) (h : DataW.trod enc Tryz.prog w base spare held fuel 27 cs = some x) : ∃ (a : Nat) (n : Int), cs = [.int .u32 (a : Int), .int .i64 n] ∧ a < 4294967296 := by
  obtain ⟨x0, x1, rfl⟩ : ∃ x0 x1, cs = [x0, x1] := by
    match cs, hl with
    | [x0, x1], _ => exact ⟨x0, x1, rfl⟩
  obtain ⟨xs, n, _, _, _, hlen, hf⟩ := DataW.trod_struct Tryz.underlying27 h
  have hx : ∀ j, j < 2 → ∃ y, xs[j]? = some y := fun j hj => ⟨xs[j]'(by have : xs.length = 2 := hlen; omega), List.getElem?_eq_getElem _⟩
  obtain ⟨y0, e0⟩ := hx 0 (by decide)
  have hc0 : Tryz.prog.cellsOf 25 = 1 := by kernel_rfl
  have g0 : DataW.trod enc Tryz.prog w base spare held n 25 (([x0, x1].drop 0).take (Tryz.prog.cellsOf 25)) = xs[0]? := hf 0 _ rfl
  rw [hc0] at g0
  replace g0 : DataW.trod enc Tryz.prog w base spare held n 25 [x0] = some y0 := g0.trans e0
  obtain ⟨y1, e1⟩ := hx 1 (by decide)
  have hc1 : Tryz.prog.cellsOf 3 = 1 := by kernel_rfl
  have g1 : DataW.trod enc Tryz.prog w base spare held n 3 (([x0, x1].drop 1).take (Tryz.prog.cellsOf 3)) = xs[1]? := hf 1 _ rfl
  rw [hc1] at g1
  replace g1 : DataW.trod enc Tryz.prog w base spare held n 3 [x1] = some y1 := g1.trans e1
  obtain ⟨b0, h0, _, w0⟩ := DataW.trod_int Tryz.underlying25 g0
  simp only [List.cons.injEq, and_true] at h0
  subst h0
  obtain ⟨a, rfl, u0⟩ := u32_of w0
  obtain ⟨n1, h1, _, w1⟩ := DataW.trod_int Tryz.underlying3 g1
  simp only [List.cons.injEq, and_true] at h1
  subst h1
  exact ⟨a, n1, rfl, u0⟩
theorem rng_cells {fuel : Nat} {cs : List Value} {x : DataW H × List MemPlace} (hl : cs.length = 2) (h : DataW.trod enc Tryz.prog w base spare held fuel 29 cs = some x) : ∃ lo hi : Int, cs = [.int .i64 lo, .int .i64 hi] := by
  obtain ⟨x0, x1, rfl⟩ : ∃ x0 x1, cs = [x0, x1] := by
    match cs, hl with
    | [x0, x1], _ => exact ⟨x0, x1, rfl⟩
  obtain ⟨xs, n, _, _, _, hlen, hf⟩ := DataW.trod_struct Tryz.underlying29 h
  have hx : ∀ j, j < 2 → ∃ y, xs[j]? = some y := fun j hj => ⟨xs[j]'(by have : xs.length = 2 := hlen; omega), List.getElem?_eq_getElem _⟩
  obtain ⟨y0, e0⟩ := hx 0 (by decide)
  have hc0 : Tryz.prog.cellsOf 3 = 1 := by kernel_rfl
  have g0 : DataW.trod enc Tryz.prog w base spare held n 3 (([x0, x1].drop 0).take (Tryz.prog.cellsOf 3)) = xs[0]? := hf 0 _ rfl
  rw [hc0] at g0
  replace g0 : DataW.trod enc Tryz.prog w base spare held n 3 [x0] = some y0 := g0.trans e0
  obtain ⟨y1, e1⟩ := hx 1 (by decide)
  have hc1 : Tryz.prog.cellsOf 3 = 1 := by kernel_rfl
  have g1 : DataW.trod enc Tryz.prog w base spare held n 3 (([x0, x1].drop 1).take (Tryz.prog.cellsOf 3)) = xs[1]? := hf 1 _ rfl
  rw [hc1] at g1
  replace g1 : DataW.trod enc Tryz.prog w base spare held n 3 [x1] = some y1 := g1.trans e1
  obtain ⟨lo, h0, _, w0⟩ := DataW.trod_int Tryz.underlying3 g0
  simp only [List.cons.injEq, and_true] at h0
  subst h0
  obtain ⟨hi, h1, _, w1⟩ := DataW.trod_int Tryz.underlying3 g1
  simp only [List.cons.injEq, and_true] at h1
  subst h1
  exact ⟨lo, hi, rfl⟩
theorem match_cells {fuel : Nat} {cs : List Value} {x : DataW H × List MemPlace} (hl : cs.length = 9) (h : DataW.trod enc Tryz.prog w base spare held fuel 31 cs = some x) : ∃ (sa : Nat) (sl : Int) (da : Nat) (dl proto slo shi dlo dhi : Int), cs = [.int .u32 (sa : Int), .int .i64 sl, .int .u32 (da : Int), .int .i64 dl, .int .i64 proto, .int .i64 slo, .int .i64 shi, .int .i64 dlo, .int .i64 dhi] ∧ sa < 4294967296 ∧ da < 4294967296 := by
  obtain ⟨x0, x1, x2, x3, x4, x5, x6, x7, x8, rfl⟩ : ∃ x0 x1 x2 x3 x4 x5 x6 x7 x8, cs = [x0, x1, x2, x3, x4, x5, x6, x7, x8] := by
    match cs, hl with
    | [x0, x1, x2, x3, x4, x5, x6, x7, x8], _ => exact ⟨x0, x1, x2, x3, x4, x5, x6, x7, x8, rfl⟩
  obtain ⟨xs, n, _, _, _, hlen, hf⟩ := DataW.trod_struct Tryz.underlying31 h
  have hx : ∀ j, j < 5 → ∃ y, xs[j]? = some y := fun j hj => ⟨xs[j]'(by have : xs.length = 5 := hlen; omega), List.getElem?_eq_getElem _⟩
  obtain ⟨y0, e0⟩ := hx 0 (by decide)
  have hc0 : Tryz.prog.cellsOf 27 = 2 := by kernel_rfl
  have g0 : DataW.trod enc Tryz.prog w base spare held n 27 (([x0, x1, x2, x3, x4, x5, x6, x7, x8].drop 0).take (Tryz.prog.cellsOf 27)) = xs[0]? := hf 0 _ rfl
  rw [hc0] at g0
  replace g0 : DataW.trod enc Tryz.prog w base spare held n 27 [x0, x1] = some y0 := g0.trans e0
  obtain ⟨y1, e1⟩ := hx 1 (by decide)
  have hc1 : Tryz.prog.cellsOf 27 = 2 := by kernel_rfl
  have g1 : DataW.trod enc Tryz.prog w base spare held n 27 (([x0, x1, x2, x3, x4, x5, x6, x7, x8].drop 2).take (Tryz.prog.cellsOf 27)) = xs[1]? := hf 1 _ rfl
  rw [hc1] at g1
  replace g1 : DataW.trod enc Tryz.prog w base spare held n 27 [x2, x3] = some y1 := g1.trans e1
  obtain ⟨y2, e2⟩ := hx 2 (by decide)
  have hc2 : Tryz.prog.cellsOf 3 = 1 := by kernel_rfl
  have g2 : DataW.trod enc Tryz.prog w base spare held n 3 (([x0, x1, x2, x3, x4, x5, x6, x7, x8].drop 4).take (Tryz.prog.cellsOf 3)) = xs[2]? := hf 2 _ rfl
  rw [hc2] at g2
  replace g2 : DataW.trod enc Tryz.prog w base spare held n 3 [x4] = some y2 := g2.trans e2
  obtain ⟨y3, e3⟩ := hx 3 (by decide)
  have hc3 : Tryz.prog.cellsOf 29 = 2 := by kernel_rfl
  have g3 : DataW.trod enc Tryz.prog w base spare held n 29 (([x0, x1, x2, x3, x4, x5, x6, x7, x8].drop 5).take (Tryz.prog.cellsOf 29)) = xs[3]? := hf 3 _ rfl
  rw [hc3] at g3
  replace g3 : DataW.trod enc Tryz.prog w base spare held n 29 [x5, x6] = some y3 := g3.trans e3
  obtain ⟨y4, e4⟩ := hx 4 (by decide)
  have hc4 : Tryz.prog.cellsOf 29 = 2 := by kernel_rfl
  have g4 : DataW.trod enc Tryz.prog w base spare held n 29 (([x0, x1, x2, x3, x4, x5, x6, x7, x8].drop 7).take (Tryz.prog.cellsOf 29)) = xs[4]? := hf 4 _ rfl
  rw [hc4] at g4
  replace g4 : DataW.trod enc Tryz.prog w base spare held n 29 [x7, x8] = some y4 := g4.trans e4
  obtain ⟨sa, sl, h0, u0⟩ := pfx_cells rfl g0
  simp only [List.cons.injEq, and_true] at h0
  obtain ⟨rfl, rfl⟩ := h0
  obtain ⟨da, dl, h1, u1⟩ := pfx_cells rfl g1
  simp only [List.cons.injEq, and_true] at h1
  obtain ⟨rfl, rfl⟩ := h1
  obtain ⟨proto, h2, _, w2⟩ := DataW.trod_int Tryz.underlying3 g2
  simp only [List.cons.injEq, and_true] at h2
  subst h2
  obtain ⟨slo, shi, h3⟩ := rng_cells rfl g3
  simp only [List.cons.injEq, and_true] at h3
  obtain ⟨rfl, rfl⟩ := h3
  obtain ⟨dlo, dhi, h4⟩ := rng_cells rfl g4
  simp only [List.cons.injEq, and_true] at h4
  obtain ⟨rfl, rfl⟩ := h4
  exact ⟨sa, sl, da, dl, proto, slo, shi, dlo, dhi, rfl, u0, u1⟩
theorem query_cells {fuel : Nat} {cs : List Value} {x : DataW H × List MemPlace} (hl : cs.length = 20) (h : DataW.trod enc Tryz.prog w base spare held fuel 33 cs = some x) : ∃ q : Qr, cs = (QC q).toList ∧ q.fit := by
  obtain ⟨x0, x1, x2, x3, x4, x5, x6, x7, x8, x9, x10, x11, x12, x13, x14, x15, x16, x17, x18, x19, rfl⟩ : ∃ x0 x1 x2 x3 x4 x5 x6 x7 x8 x9 x10 x11 x12 x13 x14 x15 x16 x17 x18 x19, cs = [x0, x1, x2, x3, x4, x5, x6, x7, x8, x9, x10, x11, x12, x13, x14, x15, x16, x17, x18, x19] := by
    match cs, hl with
    | [x0, x1, x2, x3, x4, x5, x6, x7, x8, x9, x10, x11, x12, x13, x14, x15, x16, x17, x18, x19], _ => exact ⟨x0, x1, x2, x3, x4, x5, x6, x7, x8, x9, x10, x11, x12, x13, x14, x15, x16, x17, x18, x19, rfl⟩
  obtain ⟨xs, n, _, _, _, hlen, hf⟩ := DataW.trod_struct Tryz.underlying33 h
  have hx : ∀ j, j < 10 → ∃ y, xs[j]? = some y := fun j hj => ⟨xs[j]'(by have : xs.length = 10 := hlen; omega), List.getElem?_eq_getElem _⟩
  obtain ⟨y0, e0⟩ := hx 0 (by decide)
  have hc0 : Tryz.prog.cellsOf 3 = 1 := by kernel_rfl
  have g0 : DataW.trod enc Tryz.prog w base spare held n 3 (([x0, x1, x2, x3, x4, x5, x6, x7, x8, x9, x10, x11, x12, x13, x14, x15, x16, x17, x18, x19].drop 0).take (Tryz.prog.cellsOf 3)) = xs[0]? := hf 0 _ rfl
  rw [hc0] at g0
  replace g0 : DataW.trod enc Tryz.prog w base spare held n 3 [x0] = some y0 := g0.trans e0
  obtain ⟨y1, e1⟩ := hx 1 (by decide)
  have hc1 : Tryz.prog.cellsOf 9 = 1 := by kernel_rfl
  have g1 : DataW.trod enc Tryz.prog w base spare held n 9 (([x0, x1, x2, x3, x4, x5, x6, x7, x8, x9, x10, x11, x12, x13, x14, x15, x16, x17, x18, x19].drop 1).take (Tryz.prog.cellsOf 9)) = xs[1]? := hf 1 _ rfl
  rw [hc1] at g1
  replace g1 : DataW.trod enc Tryz.prog w base spare held n 9 [x1] = some y1 := g1.trans e1
  obtain ⟨y2, e2⟩ := hx 2 (by decide)
  have hc2 : Tryz.prog.cellsOf 9 = 1 := by kernel_rfl
  have g2 : DataW.trod enc Tryz.prog w base spare held n 9 (([x0, x1, x2, x3, x4, x5, x6, x7, x8, x9, x10, x11, x12, x13, x14, x15, x16, x17, x18, x19].drop 2).take (Tryz.prog.cellsOf 9)) = xs[2]? := hf 2 _ rfl
  rw [hc2] at g2
  replace g2 : DataW.trod enc Tryz.prog w base spare held n 9 [x2] = some y2 := g2.trans e2
  obtain ⟨y3, e3⟩ := hx 3 (by decide)
  have hc3 : Tryz.prog.cellsOf 9 = 1 := by kernel_rfl
  have g3 : DataW.trod enc Tryz.prog w base spare held n 9 (([x0, x1, x2, x3, x4, x5, x6, x7, x8, x9, x10, x11, x12, x13, x14, x15, x16, x17, x18, x19].drop 3).take (Tryz.prog.cellsOf 9)) = xs[3]? := hf 3 _ rfl
  rw [hc3] at g3
  replace g3 : DataW.trod enc Tryz.prog w base spare held n 9 [x3] = some y3 := g3.trans e3
  obtain ⟨y4, e4⟩ := hx 4 (by decide)
  have hc4 : Tryz.prog.cellsOf 9 = 1 := by kernel_rfl
  have g4 : DataW.trod enc Tryz.prog w base spare held n 9 (([x0, x1, x2, x3, x4, x5, x6, x7, x8, x9, x10, x11, x12, x13, x14, x15, x16, x17, x18, x19].drop 4).take (Tryz.prog.cellsOf 9)) = xs[4]? := hf 4 _ rfl
  rw [hc4] at g4
  replace g4 : DataW.trod enc Tryz.prog w base spare held n 9 [x4] = some y4 := g4.trans e4
  obtain ⟨y5, e5⟩ := hx 5 (by decide)
  have hc5 : Tryz.prog.cellsOf 9 = 1 := by kernel_rfl
  have g5 : DataW.trod enc Tryz.prog w base spare held n 9 (([x0, x1, x2, x3, x4, x5, x6, x7, x8, x9, x10, x11, x12, x13, x14, x15, x16, x17, x18, x19].drop 5).take (Tryz.prog.cellsOf 9)) = xs[5]? := hf 5 _ rfl
  rw [hc5] at g5
  replace g5 : DataW.trod enc Tryz.prog w base spare held n 9 [x5] = some y5 := g5.trans e5
  obtain ⟨y6, e6⟩ := hx 6 (by decide)
  have hc6 : Tryz.prog.cellsOf 27 = 2 := by kernel_rfl
  have g6 : DataW.trod enc Tryz.prog w base spare held n 27 (([x0, x1, x2, x3, x4, x5, x6, x7, x8, x9, x10, x11, x12, x13, x14, x15, x16, x17, x18, x19].drop 6).take (Tryz.prog.cellsOf 27)) = xs[6]? := hf 6 _ rfl
  rw [hc6] at g6
  replace g6 : DataW.trod enc Tryz.prog w base spare held n 27 [x6, x7] = some y6 := g6.trans e6
  obtain ⟨y7, e7⟩ := hx 7 (by decide)
  have hc7 : Tryz.prog.cellsOf 27 = 2 := by kernel_rfl
  have g7 : DataW.trod enc Tryz.prog w base spare held n 27 (([x0, x1, x2, x3, x4, x5, x6, x7, x8, x9, x10, x11, x12, x13, x14, x15, x16, x17, x18, x19].drop 8).take (Tryz.prog.cellsOf 27)) = xs[7]? := hf 7 _ rfl
  rw [hc7] at g7
  replace g7 : DataW.trod enc Tryz.prog w base spare held n 27 [x8, x9] = some y7 := g7.trans e7
  obtain ⟨y8, e8⟩ := hx 8 (by decide)
  have hc8 : Tryz.prog.cellsOf 31 = 9 := by kernel_rfl
  have g8 : DataW.trod enc Tryz.prog w base spare held n 31 (([x0, x1, x2, x3, x4, x5, x6, x7, x8, x9, x10, x11, x12, x13, x14, x15, x16, x17, x18, x19].drop 10).take (Tryz.prog.cellsOf 31)) = xs[8]? := hf 8 _ rfl
  rw [hc8] at g8
  replace g8 : DataW.trod enc Tryz.prog w base spare held n 31 [x10, x11, x12, x13, x14, x15, x16, x17, x18] = some y8 := g8.trans e8
  obtain ⟨y9, e9⟩ := hx 9 (by decide)
  have hc9 : Tryz.prog.cellsOf 3 = 1 := by kernel_rfl
  have g9 : DataW.trod enc Tryz.prog w base spare held n 3 (([x0, x1, x2, x3, x4, x5, x6, x7, x8, x9, x10, x11, x12, x13, x14, x15, x16, x17, x18, x19].drop 19).take (Tryz.prog.cellsOf 3)) = xs[9]? := hf 9 _ rfl
  rw [hc9] at g9
  replace g9 : DataW.trod enc Tryz.prog w base spare held n 3 [x19] = some y9 := g9.trans e9
  obtain ⟨kind, h0, _, w0⟩ := DataW.trod_int Tryz.underlying3 g0
  simp only [List.cons.injEq, and_true] at h0
  subst h0
  obtain ⟨fr, h1, _, w1⟩ := DataW.trod_string Tryz.underlying9 g1
  simp only [List.cons.injEq, and_true] at h1
  subst h1
  obtain ⟨fi, h2, _, w2⟩ := DataW.trod_string Tryz.underlying9 g2
  simp only [List.cons.injEq, and_true] at h2
  subst h2
  obtain ⟨tr, h3, _, w3⟩ := DataW.trod_string Tryz.underlying9 g3
  simp only [List.cons.injEq, and_true] at h3
  subst h3
  obtain ⟨ti, h4, _, w4⟩ := DataW.trod_string Tryz.underlying9 g4
  simp only [List.cons.injEq, and_true] at h4
  subst h4
  obtain ⟨via, h5, _, w5⟩ := DataW.trod_string Tryz.underlying9 g5
  simp only [List.cons.injEq, and_true] at h5
  subst h5
  obtain ⟨la, ll, h6, u6⟩ := pfx_cells rfl g6
  simp only [List.cons.injEq, and_true] at h6
  obtain ⟨rfl, rfl⟩ := h6
  obtain ⟨ra, rl, h7, u7⟩ := pfx_cells rfl g7
  simp only [List.cons.injEq, and_true] at h7
  obtain ⟨rfl, rfl⟩ := h7
  obtain ⟨sa, sl, da, dl, proto, slo, shi, dlo, dhi, h8, u8⟩ := match_cells rfl g8
  simp only [List.cons.injEq, and_true] at h8
  obtain ⟨rfl, rfl, rfl, rfl, rfl, rfl, rfl, rfl, rfl⟩ := h8
  obtain ⟨fails, h9, _, w9⟩ := DataW.trod_int Tryz.underlying3 g9
  simp only [List.cons.injEq, and_true] at h9
  subst h9
  exact ⟨⟨kind, bytes fr, bytes fi, bytes tr, bytes ti, bytes via, la, ll, ra, rl, sa, sl, da, dl, proto, slo, shi, dlo, dhi, fails⟩, by simp [QC, strV, str_bytes], ⟨u6, u7, u8.1, u8.2⟩⟩
end
end Go.Proofs.YtnhemjdmleilcaaGreatDoor
