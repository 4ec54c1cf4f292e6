/- An argument that is a router or a network: what the walks are told of it. No condition. -/
import Derived.Test.YtnhemjdmleilcaaGreatDoorQryArgs
import Derived.Test.YtnhemjdmleilcaaGreatDoorSlices
import Derived.Test.YtnhemjdmleilcaaGreatDoorModU
namespace Go.Proofs.YtnhemjdmleilcaaGreatDoor
open Go.RowKit Go.ChangeShapes Go.WideShapes Go.Deep

section
variable {P : Program} {H : Type} {enc : TypeId × Value → H} {w : World} {base : Nat} {spare : Nat → Bool} {held : Bool}
theorem open_rows1 {T E : TypeId} {α : Type} (dflt : α) (cells : α → Array Value) (ok : α → Prop) {n : Nat} (hn : 0 < n) (hl : ∀ e, (cells e).toList.length = n) (hu : P.underlying T = some (.slice E)) (hC : P.cellsOf E = n)
    (hone : ∀ (fuel : Nat) (cs : List Value) (x : DataW H × List MemPlace), cs.length = n → DataW.trod enc P w base spare held fuel E cs = some x → ∃ e, cs = (cells e).toList ∧ ok e)
    {fuel : Nat} {cs : List Value} {x : DataW H × List MemPlace} (h : DataW.trod enc P w base spare held fuel T cs = some x) :
    ∃ (v : Value) (es : List α), cs = [v] ∧ SlV w w.heap.size n cells v es ∧ ∀ e ∈ es, ok e := by
  have hc : ∃ a len cap, cs = [.slice a len cap] := by
    rcases open_slice hu h with ⟨rfl, _⟩ | ⟨ad, l, c, m, k, D, Pl, rfl, _⟩
    · exact ⟨_, _, _, rfl⟩
    · exact ⟨_, _, _, rfl⟩
  obtain ⟨a, len, cap, rfl⟩ := hc
  obtain ⟨es, h1, h2, h3, h4⟩ := open_rows dflt (fun e => (cells e).toList) ok hn hl hu hC hone h
  subst h1
  exact ⟨_, es, rfl, ⟨a, cap, rfl, h2, h3⟩, h4⟩
end
section
variable {H : Type} {enc : TypeId × Value → H} {w : World} {base : Nat} {spare : Nat → Bool} {held : Bool}
set_option maxHeartbeats 1000000 in
theorem wild_cells {fuel : Nat} {cs : List Value} {x : DataW H × List MemPlace} (hl : cs.length = 2) (h : DataW.trod enc Tryz.prog w base spare held fuel 134 cs = some x) : ∃ (a b : Nat), cs = [.int .u32 (a : Int), .int .u32 (b : Int)] ∧ a < 4294967296 ∧ b < 4294967296 := by
  obtain ⟨x0, x1, rfl⟩ : ∃ x0 x1, cs = [x0, x1] := by
    match cs, hl with
    | [x0, x1], _ => exact ⟨x0, x1, rfl⟩
  obtain ⟨xs, n, _, _, _, hlen, hf⟩ := DataW.trod_struct Tryz.underlying134 h
  have hx : ∀ j, j < 2 → ∃ y, xs[j]? = some y := fun j hj => ⟨xs[j]'(by have : xs.length = 2 := hlen; omega), List.getElem?_eq_getElem _⟩
  obtain ⟨y0, e0⟩ := hx 0 (by decide)
  have hc0 : Tryz.prog.cellsOf 25 = 1 := by kernel_rfl
  have g0 : DataW.trod enc Tryz.prog w base spare held n 25 (([x0, x1].drop 0).take (Tryz.prog.cellsOf 25)) = xs[0]? := hf 0 _ rfl
  rw [hc0] at g0
  replace g0 : DataW.trod enc Tryz.prog w base spare held n 25 [x0] = some y0 := g0.trans e0
  obtain ⟨y1, e1⟩ := hx 1 (by decide)
  have hc1 : Tryz.prog.cellsOf 25 = 1 := by kernel_rfl
  have g1 : DataW.trod enc Tryz.prog w base spare held n 25 (([x0, x1].drop 1).take (Tryz.prog.cellsOf 25)) = xs[1]? := hf 1 _ rfl
  rw [hc1] at g1
  replace g1 : DataW.trod enc Tryz.prog w base spare held n 25 [x1] = some y1 := g1.trans e1
  obtain ⟨b0, h0, _, w0⟩ := DataW.trod_int Tryz.underlying25 g0
  simp only [List.cons.injEq, and_true] at h0
  subst h0
  obtain ⟨a, rfl, u0⟩ := u32_of w0
  obtain ⟨b1, h1, _, w1⟩ := DataW.trod_int Tryz.underlying25 g1
  simp only [List.cons.injEq, and_true] at h1
  subst h1
  obtain ⟨b, rfl, u1⟩ := u32_of w1
  exact ⟨a, b, rfl, u0, u1⟩
set_option maxHeartbeats 1000000 in
theorem If_cells {fuel : Nat} {cs : List Value} {x : DataW H × List MemPlace} (hl : cs.length = 12) (h : DataW.trod enc Tryz.prog w base spare held fuel 99 cs = some x) : ∃ e : If, cs = e.C.toList ∧ e.fit := by
  obtain ⟨x0, x1, x2, x3, x4, x5, x6, x7, x8, x9, x10, x11, rfl⟩ : ∃ x0 x1 x2 x3 x4 x5 x6 x7 x8 x9 x10 x11, cs = [x0, x1, x2, x3, x4, x5, x6, x7, x8, x9, x10, x11] := by
    match cs, hl with
    | [x0, x1, x2, x3, x4, x5, x6, x7, x8, x9, x10, x11], _ => exact ⟨x0, x1, x2, x3, x4, x5, x6, x7, x8, x9, x10, x11, rfl⟩
  obtain ⟨xs, n, _, _, _, hlen, hf⟩ := DataW.trod_struct Tryz.underlying99 h
  have hx : ∀ j, j < 12 → ∃ y, xs[j]? = some y := fun j hj => ⟨xs[j]'(by have : xs.length = 12 := hlen; omega), List.getElem?_eq_getElem _⟩
  obtain ⟨y0, e0⟩ := hx 0 (by decide)
  have hc0 : Tryz.prog.cellsOf 9 = 1 := by kernel_rfl
  have g0 : DataW.trod enc Tryz.prog w base spare held n 9 (([x0, x1, x2, x3, x4, x5, x6, x7, x8, x9, x10, x11].drop 0).take (Tryz.prog.cellsOf 9)) = xs[0]? := hf 0 _ rfl
  rw [hc0] at g0
  replace g0 : DataW.trod enc Tryz.prog w base spare held n 9 [x0] = some y0 := g0.trans e0
  obtain ⟨y1, e1⟩ := hx 1 (by decide)
  have hc1 : Tryz.prog.cellsOf 25 = 1 := by kernel_rfl
  have g1 : DataW.trod enc Tryz.prog w base spare held n 25 (([x0, x1, x2, x3, x4, x5, x6, x7, x8, x9, x10, x11].drop 1).take (Tryz.prog.cellsOf 25)) = xs[1]? := hf 1 _ rfl
  rw [hc1] at g1
  replace g1 : DataW.trod enc Tryz.prog w base spare held n 25 [x1] = some y1 := g1.trans e1
  obtain ⟨y2, e2⟩ := hx 2 (by decide)
  have hc2 : Tryz.prog.cellsOf 3 = 1 := by kernel_rfl
  have g2 : DataW.trod enc Tryz.prog w base spare held n 3 (([x0, x1, x2, x3, x4, x5, x6, x7, x8, x9, x10, x11].drop 2).take (Tryz.prog.cellsOf 3)) = xs[2]? := hf 2 _ rfl
  rw [hc2] at g2
  replace g2 : DataW.trod enc Tryz.prog w base spare held n 3 [x2] = some y2 := g2.trans e2
  obtain ⟨y3, e3⟩ := hx 3 (by decide)
  have hc3 : Tryz.prog.cellsOf 3 = 1 := by kernel_rfl
  have g3 : DataW.trod enc Tryz.prog w base spare held n 3 (([x0, x1, x2, x3, x4, x5, x6, x7, x8, x9, x10, x11].drop 3).take (Tryz.prog.cellsOf 3)) = xs[3]? := hf 3 _ rfl
  rw [hc3] at g3
  replace g3 : DataW.trod enc Tryz.prog w base spare held n 3 [x3] = some y3 := g3.trans e3
  obtain ⟨y4, e4⟩ := hx 4 (by decide)
  have hc4 : Tryz.prog.cellsOf 4 = 1 := by kernel_rfl
  have g4 : DataW.trod enc Tryz.prog w base spare held n 4 (([x0, x1, x2, x3, x4, x5, x6, x7, x8, x9, x10, x11].drop 4).take (Tryz.prog.cellsOf 4)) = xs[4]? := hf 4 _ rfl
  rw [hc4] at g4
  replace g4 : DataW.trod enc Tryz.prog w base spare held n 4 [x4] = some y4 := g4.trans e4
  obtain ⟨y5, e5⟩ := hx 5 (by decide)
  have hc5 : Tryz.prog.cellsOf 4 = 1 := by kernel_rfl
  have g5 : DataW.trod enc Tryz.prog w base spare held n 4 (([x0, x1, x2, x3, x4, x5, x6, x7, x8, x9, x10, x11].drop 5).take (Tryz.prog.cellsOf 4)) = xs[5]? := hf 5 _ rfl
  rw [hc5] at g5
  replace g5 : DataW.trod enc Tryz.prog w base spare held n 4 [x5] = some y5 := g5.trans e5
  obtain ⟨y6, e6⟩ := hx 6 (by decide)
  have hc6 : Tryz.prog.cellsOf 3 = 1 := by kernel_rfl
  have g6 : DataW.trod enc Tryz.prog w base spare held n 3 (([x0, x1, x2, x3, x4, x5, x6, x7, x8, x9, x10, x11].drop 6).take (Tryz.prog.cellsOf 3)) = xs[6]? := hf 6 _ rfl
  rw [hc6] at g6
  replace g6 : DataW.trod enc Tryz.prog w base spare held n 3 [x6] = some y6 := g6.trans e6
  obtain ⟨y7, e7⟩ := hx 7 (by decide)
  have hc7 : Tryz.prog.cellsOf 3 = 1 := by kernel_rfl
  have g7 : DataW.trod enc Tryz.prog w base spare held n 3 (([x0, x1, x2, x3, x4, x5, x6, x7, x8, x9, x10, x11].drop 7).take (Tryz.prog.cellsOf 3)) = xs[7]? := hf 7 _ rfl
  rw [hc7] at g7
  replace g7 : DataW.trod enc Tryz.prog w base spare held n 3 [x7] = some y7 := g7.trans e7
  obtain ⟨y8, e8⟩ := hx 8 (by decide)
  have hc8 : Tryz.prog.cellsOf 4 = 1 := by kernel_rfl
  have g8 : DataW.trod enc Tryz.prog w base spare held n 4 (([x0, x1, x2, x3, x4, x5, x6, x7, x8, x9, x10, x11].drop 8).take (Tryz.prog.cellsOf 4)) = xs[8]? := hf 8 _ rfl
  rw [hc8] at g8
  replace g8 : DataW.trod enc Tryz.prog w base spare held n 4 [x8] = some y8 := g8.trans e8
  obtain ⟨y9, e9⟩ := hx 9 (by decide)
  have hc9 : Tryz.prog.cellsOf 9 = 1 := by kernel_rfl
  have g9 : DataW.trod enc Tryz.prog w base spare held n 9 (([x0, x1, x2, x3, x4, x5, x6, x7, x8, x9, x10, x11].drop 9).take (Tryz.prog.cellsOf 9)) = xs[9]? := hf 9 _ rfl
  rw [hc9] at g9
  replace g9 : DataW.trod enc Tryz.prog w base spare held n 9 [x9] = some y9 := g9.trans e9
  obtain ⟨y10, e10⟩ := hx 10 (by decide)
  have hc10 : Tryz.prog.cellsOf 9 = 1 := by kernel_rfl
  have g10 : DataW.trod enc Tryz.prog w base spare held n 9 (([x0, x1, x2, x3, x4, x5, x6, x7, x8, x9, x10, x11].drop 10).take (Tryz.prog.cellsOf 9)) = xs[10]? := hf 10 _ rfl
  rw [hc10] at g10
  replace g10 : DataW.trod enc Tryz.prog w base spare held n 9 [x10] = some y10 := g10.trans e10
  obtain ⟨y11, e11⟩ := hx 11 (by decide)
  have hc11 : Tryz.prog.cellsOf 3 = 1 := by kernel_rfl
  have g11 : DataW.trod enc Tryz.prog w base spare held n 3 (([x0, x1, x2, x3, x4, x5, x6, x7, x8, x9, x10, x11].drop 11).take (Tryz.prog.cellsOf 3)) = xs[11]? := hf 11 _ rfl
  rw [hc11] at g11
  replace g11 : DataW.trod enc Tryz.prog w base spare held n 3 [x11] = some y11 := g11.trans e11
  obtain ⟨a0, h0, _, w0⟩ := DataW.trod_string Tryz.underlying9 g0
  simp only [List.cons.injEq, and_true] at h0
  subst h0
  obtain ⟨b1, h1, _, w1⟩ := DataW.trod_int Tryz.underlying25 g1
  simp only [List.cons.injEq, and_true] at h1
  subst h1
  obtain ⟨a1, rfl, u1⟩ := u32_of w1
  obtain ⟨a2, h2, _, w2⟩ := DataW.trod_int Tryz.underlying3 g2
  simp only [List.cons.injEq, and_true] at h2
  subst h2
  obtain ⟨a3, h3, _, w3⟩ := DataW.trod_int Tryz.underlying3 g3
  simp only [List.cons.injEq, and_true] at h3
  subst h3
  obtain ⟨a4, h4, _⟩ := DataW.trod_bool Tryz.underlying4 g4
  simp only [List.cons.injEq, and_true] at h4
  subst h4
  obtain ⟨a5, h5, _⟩ := DataW.trod_bool Tryz.underlying4 g5
  simp only [List.cons.injEq, and_true] at h5
  subst h5
  obtain ⟨a6, h6, _, w6⟩ := DataW.trod_int Tryz.underlying3 g6
  simp only [List.cons.injEq, and_true] at h6
  subst h6
  obtain ⟨a7, h7, _, w7⟩ := DataW.trod_int Tryz.underlying3 g7
  simp only [List.cons.injEq, and_true] at h7
  subst h7
  obtain ⟨a8, h8, _⟩ := DataW.trod_bool Tryz.underlying4 g8
  simp only [List.cons.injEq, and_true] at h8
  subst h8
  obtain ⟨a9, h9, _, w9⟩ := DataW.trod_string Tryz.underlying9 g9
  simp only [List.cons.injEq, and_true] at h9
  subst h9
  obtain ⟨a10, h10, _, w10⟩ := DataW.trod_string Tryz.underlying9 g10
  simp only [List.cons.injEq, and_true] at h10
  subst h10
  obtain ⟨a11, h11, _, w11⟩ := DataW.trod_int Tryz.underlying3 g11
  simp only [List.cons.injEq, and_true] at h11
  subst h11
  exact ⟨⟨bytes a0, a1, a2, a3, a4, a5, a6, a7, a8, bytes a9, bytes a10, a11⟩, by simp [If.C, strV, str_bytes], u1⟩
set_option maxHeartbeats 1000000 in
theorem PRule_cells {fuel : Nat} {cs : List Value} {x : DataW H × List MemPlace} (hl : cs.length = 5) (h : DataW.trod enc Tryz.prog w base spare held fuel 123 cs = some x) : ∃ e : PRule, cs = e.C.toList ∧ e.fit := by
  obtain ⟨x0, x1, x2, x3, x4, rfl⟩ : ∃ x0 x1 x2 x3 x4, cs = [x0, x1, x2, x3, x4] := by
    match cs, hl with
    | [x0, x1, x2, x3, x4], _ => exact ⟨x0, x1, x2, x3, x4, rfl⟩
  obtain ⟨xs, n, _, _, _, hlen, hf⟩ := DataW.trod_struct Tryz.underlying123 h
  have hx : ∀ j, j < 4 → ∃ y, xs[j]? = some y := fun j hj => ⟨xs[j]'(by have : xs.length = 4 := hlen; omega), List.getElem?_eq_getElem _⟩
  obtain ⟨y0, e0⟩ := hx 0 (by decide)
  have hc0 : Tryz.prog.cellsOf 4 = 1 := by kernel_rfl
  have g0 : DataW.trod enc Tryz.prog w base spare held n 4 (([x0, x1, x2, x3, x4].drop 0).take (Tryz.prog.cellsOf 4)) = xs[0]? := hf 0 _ rfl
  rw [hc0] at g0
  replace g0 : DataW.trod enc Tryz.prog w base spare held n 4 [x0] = some y0 := g0.trans e0
  obtain ⟨y1, e1⟩ := hx 1 (by decide)
  have hc1 : Tryz.prog.cellsOf 27 = 2 := by kernel_rfl
  have g1 : DataW.trod enc Tryz.prog w base spare held n 27 (([x0, x1, x2, x3, x4].drop 1).take (Tryz.prog.cellsOf 27)) = xs[1]? := hf 1 _ rfl
  rw [hc1] at g1
  replace g1 : DataW.trod enc Tryz.prog w base spare held n 27 [x1, x2] = some y1 := g1.trans e1
  obtain ⟨y2, e2⟩ := hx 2 (by decide)
  have hc2 : Tryz.prog.cellsOf 3 = 1 := by kernel_rfl
  have g2 : DataW.trod enc Tryz.prog w base spare held n 3 (([x0, x1, x2, x3, x4].drop 3).take (Tryz.prog.cellsOf 3)) = xs[2]? := hf 2 _ rfl
  rw [hc2] at g2
  replace g2 : DataW.trod enc Tryz.prog w base spare held n 3 [x3] = some y2 := g2.trans e2
  obtain ⟨y3, e3⟩ := hx 3 (by decide)
  have hc3 : Tryz.prog.cellsOf 3 = 1 := by kernel_rfl
  have g3 : DataW.trod enc Tryz.prog w base spare held n 3 (([x0, x1, x2, x3, x4].drop 4).take (Tryz.prog.cellsOf 3)) = xs[3]? := hf 3 _ rfl
  rw [hc3] at g3
  replace g3 : DataW.trod enc Tryz.prog w base spare held n 3 [x4] = some y3 := g3.trans e3
  obtain ⟨a0, h0, _⟩ := DataW.trod_bool Tryz.underlying4 g0
  simp only [List.cons.injEq, and_true] at h0
  subst h0
  obtain ⟨a1, a2, h1, u1⟩ := pfx_cells rfl g1
  simp only [List.cons.injEq, and_true] at h1
  obtain ⟨rfl, rfl⟩ := h1
  obtain ⟨a3, h2, _, w2⟩ := DataW.trod_int Tryz.underlying3 g2
  simp only [List.cons.injEq, and_true] at h2
  subst h2
  obtain ⟨a4, h3, _, w3⟩ := DataW.trod_int Tryz.underlying3 g3
  simp only [List.cons.injEq, and_true] at h3
  subst h3
  exact ⟨⟨a0, a1, a2, a3, a4⟩, by simp [PRule.C], u1⟩
set_option maxHeartbeats 1000000 in
theorem PList_cells {fuel : Nat} {cs : List Value} {x : DataW H × List MemPlace} (hl : cs.length = 2) (h : DataW.trod enc Tryz.prog w base spare held fuel 120 cs = some x) : ∃ e : PList, cs = e.C.toList ∧ (e.at w w.heap.size ∧ e.fit) := by
  obtain ⟨x0, x1, rfl⟩ : ∃ x0 x1, cs = [x0, x1] := by
    match cs, hl with
    | [x0, x1], _ => exact ⟨x0, x1, rfl⟩
  obtain ⟨xs, n, _, _, _, hlen, hf⟩ := DataW.trod_struct Tryz.underlying120 h
  have hx : ∀ j, j < 2 → ∃ y, xs[j]? = some y := fun j hj => ⟨xs[j]'(by have : xs.length = 2 := hlen; omega), List.getElem?_eq_getElem _⟩
  obtain ⟨y0, e0⟩ := hx 0 (by decide)
  have hc0 : Tryz.prog.cellsOf 9 = 1 := by kernel_rfl
  have g0 : DataW.trod enc Tryz.prog w base spare held n 9 (([x0, x1].drop 0).take (Tryz.prog.cellsOf 9)) = xs[0]? := hf 0 _ rfl
  rw [hc0] at g0
  replace g0 : DataW.trod enc Tryz.prog w base spare held n 9 [x0] = some y0 := g0.trans e0
  obtain ⟨y1, e1⟩ := hx 1 (by decide)
  have hc1 : Tryz.prog.cellsOf 118 = 1 := by kernel_rfl
  have g1 : DataW.trod enc Tryz.prog w base spare held n 118 (([x0, x1].drop 1).take (Tryz.prog.cellsOf 118)) = xs[1]? := hf 1 _ rfl
  rw [hc1] at g1
  replace g1 : DataW.trod enc Tryz.prog w base spare held n 118 [x1] = some y1 := g1.trans e1
  obtain ⟨a0, h0, _, w0⟩ := DataW.trod_string Tryz.underlying9 g0
  simp only [List.cons.injEq, and_true] at h0
  subst h0
  obtain ⟨v, es, h1, u1, s1⟩ := open_rows1 (default : PRule) PRule.C (fun (e : PRule) => e.fit) (n := 5) (by decide) (fun _ => rfl) Tryz.underlying118 (by kernel_rfl) (fun fuel cs x hl h => PRule_cells hl h) g1
  simp only [List.cons.injEq, and_true] at h1
  subst h1
  exact ⟨⟨bytes a0, x1, es⟩, by simp [PList.C, strV, str_bytes], ⟨u1, s1⟩⟩
set_option maxHeartbeats 1000000 in
theorem Cl_cells {fuel : Nat} {cs : List Value} {x : DataW H × List MemPlace} (hl : cs.length = 7) (h : DataW.trod enc Tryz.prog w base spare held fuel 128 cs = some x) : ∃ e : Cl, cs = e.C.toList ∧ e.fit := by
  obtain ⟨x0, x1, x2, x3, x4, x5, x6, rfl⟩ : ∃ x0 x1 x2 x3 x4 x5 x6, cs = [x0, x1, x2, x3, x4, x5, x6] := by
    match cs, hl with
    | [x0, x1, x2, x3, x4, x5, x6], _ => exact ⟨x0, x1, x2, x3, x4, x5, x6, rfl⟩
  obtain ⟨xs, n, _, _, _, hlen, hf⟩ := DataW.trod_struct Tryz.underlying128 h
  have hx : ∀ j, j < 7 → ∃ y, xs[j]? = some y := fun j hj => ⟨xs[j]'(by have : xs.length = 7 := hlen; omega), List.getElem?_eq_getElem _⟩
  obtain ⟨y0, e0⟩ := hx 0 (by decide)
  have hc0 : Tryz.prog.cellsOf 4 = 1 := by kernel_rfl
  have g0 : DataW.trod enc Tryz.prog w base spare held n 4 (([x0, x1, x2, x3, x4, x5, x6].drop 0).take (Tryz.prog.cellsOf 4)) = xs[0]? := hf 0 _ rfl
  rw [hc0] at g0
  replace g0 : DataW.trod enc Tryz.prog w base spare held n 4 [x0] = some y0 := g0.trans e0
  obtain ⟨y1, e1⟩ := hx 1 (by decide)
  have hc1 : Tryz.prog.cellsOf 9 = 1 := by kernel_rfl
  have g1 : DataW.trod enc Tryz.prog w base spare held n 9 (([x0, x1, x2, x3, x4, x5, x6].drop 1).take (Tryz.prog.cellsOf 9)) = xs[1]? := hf 1 _ rfl
  rw [hc1] at g1
  replace g1 : DataW.trod enc Tryz.prog w base spare held n 9 [x1] = some y1 := g1.trans e1
  obtain ⟨y2, e2⟩ := hx 2 (by decide)
  have hc2 : Tryz.prog.cellsOf 3 = 1 := by kernel_rfl
  have g2 : DataW.trod enc Tryz.prog w base spare held n 3 (([x0, x1, x2, x3, x4, x5, x6].drop 2).take (Tryz.prog.cellsOf 3)) = xs[2]? := hf 2 _ rfl
  rw [hc2] at g2
  replace g2 : DataW.trod enc Tryz.prog w base spare held n 3 [x2] = some y2 := g2.trans e2
  obtain ⟨y3, e3⟩ := hx 3 (by decide)
  have hc3 : Tryz.prog.cellsOf 3 = 1 := by kernel_rfl
  have g3 : DataW.trod enc Tryz.prog w base spare held n 3 (([x0, x1, x2, x3, x4, x5, x6].drop 3).take (Tryz.prog.cellsOf 3)) = xs[3]? := hf 3 _ rfl
  rw [hc3] at g3
  replace g3 : DataW.trod enc Tryz.prog w base spare held n 3 [x3] = some y3 := g3.trans e3
  obtain ⟨y4, e4⟩ := hx 4 (by decide)
  have hc4 : Tryz.prog.cellsOf 3 = 1 := by kernel_rfl
  have g4 : DataW.trod enc Tryz.prog w base spare held n 3 (([x0, x1, x2, x3, x4, x5, x6].drop 4).take (Tryz.prog.cellsOf 3)) = xs[4]? := hf 4 _ rfl
  rw [hc4] at g4
  replace g4 : DataW.trod enc Tryz.prog w base spare held n 3 [x4] = some y4 := g4.trans e4
  obtain ⟨y5, e5⟩ := hx 5 (by decide)
  have hc5 : Tryz.prog.cellsOf 3 = 1 := by kernel_rfl
  have g5 : DataW.trod enc Tryz.prog w base spare held n 3 (([x0, x1, x2, x3, x4, x5, x6].drop 5).take (Tryz.prog.cellsOf 3)) = xs[5]? := hf 5 _ rfl
  rw [hc5] at g5
  replace g5 : DataW.trod enc Tryz.prog w base spare held n 3 [x5] = some y5 := g5.trans e5
  obtain ⟨y6, e6⟩ := hx 6 (by decide)
  have hc6 : Tryz.prog.cellsOf 3 = 1 := by kernel_rfl
  have g6 : DataW.trod enc Tryz.prog w base spare held n 3 (([x0, x1, x2, x3, x4, x5, x6].drop 6).take (Tryz.prog.cellsOf 3)) = xs[6]? := hf 6 _ rfl
  rw [hc6] at g6
  replace g6 : DataW.trod enc Tryz.prog w base spare held n 3 [x6] = some y6 := g6.trans e6
  obtain ⟨a0, h0, _⟩ := DataW.trod_bool Tryz.underlying4 g0
  simp only [List.cons.injEq, and_true] at h0
  subst h0
  obtain ⟨a1, h1, _, w1⟩ := DataW.trod_string Tryz.underlying9 g1
  simp only [List.cons.injEq, and_true] at h1
  subst h1
  obtain ⟨a2, h2, _, w2⟩ := DataW.trod_int Tryz.underlying3 g2
  simp only [List.cons.injEq, and_true] at h2
  subst h2
  obtain ⟨a3, h3, _, w3⟩ := DataW.trod_int Tryz.underlying3 g3
  simp only [List.cons.injEq, and_true] at h3
  subst h3
  obtain ⟨a4, h4, _, w4⟩ := DataW.trod_int Tryz.underlying3 g4
  simp only [List.cons.injEq, and_true] at h4
  subst h4
  obtain ⟨a5, h5, _, w5⟩ := DataW.trod_int Tryz.underlying3 g5
  simp only [List.cons.injEq, and_true] at h5
  subst h5
  obtain ⟨a6, h6, _, w6⟩ := DataW.trod_int Tryz.underlying3 g6
  simp only [List.cons.injEq, and_true] at h6
  subst h6
  exact ⟨⟨a0, bytes a1, a2, a3, a4, a5, a6⟩, by simp [Cl.C, strV, str_bytes], trivial⟩
set_option maxHeartbeats 1000000 in
theorem RMap_cells {fuel : Nat} {cs : List Value} {x : DataW H × List MemPlace} (hl : cs.length = 2) (h : DataW.trod enc Tryz.prog w base spare held fuel 126 cs = some x) : ∃ e : RMap, cs = e.C.toList ∧ (e.at w w.heap.size ∧ e.fit) := by
  obtain ⟨x0, x1, rfl⟩ : ∃ x0 x1, cs = [x0, x1] := by
    match cs, hl with
    | [x0, x1], _ => exact ⟨x0, x1, rfl⟩
  obtain ⟨xs, n, _, _, _, hlen, hf⟩ := DataW.trod_struct Tryz.underlying126 h
  have hx : ∀ j, j < 2 → ∃ y, xs[j]? = some y := fun j hj => ⟨xs[j]'(by have : xs.length = 2 := hlen; omega), List.getElem?_eq_getElem _⟩
  obtain ⟨y0, e0⟩ := hx 0 (by decide)
  have hc0 : Tryz.prog.cellsOf 9 = 1 := by kernel_rfl
  have g0 : DataW.trod enc Tryz.prog w base spare held n 9 (([x0, x1].drop 0).take (Tryz.prog.cellsOf 9)) = xs[0]? := hf 0 _ rfl
  rw [hc0] at g0
  replace g0 : DataW.trod enc Tryz.prog w base spare held n 9 [x0] = some y0 := g0.trans e0
  obtain ⟨y1, e1⟩ := hx 1 (by decide)
  have hc1 : Tryz.prog.cellsOf 124 = 1 := by kernel_rfl
  have g1 : DataW.trod enc Tryz.prog w base spare held n 124 (([x0, x1].drop 1).take (Tryz.prog.cellsOf 124)) = xs[1]? := hf 1 _ rfl
  rw [hc1] at g1
  replace g1 : DataW.trod enc Tryz.prog w base spare held n 124 [x1] = some y1 := g1.trans e1
  obtain ⟨a0, h0, _, w0⟩ := DataW.trod_string Tryz.underlying9 g0
  simp only [List.cons.injEq, and_true] at h0
  subst h0
  obtain ⟨v, es, h1, u1, s1⟩ := open_rows1 (default : Cl) Cl.C (fun (e : Cl) => e.fit) (n := 7) (by decide) (fun _ => rfl) Tryz.underlying124 (by kernel_rfl) (fun fuel cs x hl h => Cl_cells hl h) g1
  simp only [List.cons.injEq, and_true] at h1
  subst h1
  exact ⟨⟨bytes a0, x1, es⟩, by simp [RMap.C, strV, str_bytes], ⟨u1, trivial⟩⟩
set_option maxHeartbeats 1000000 in
theorem Ru_cells {fuel : Nat} {cs : List Value} {x : DataW H × List MemPlace} (hl : cs.length = 10) (h : DataW.trod enc Tryz.prog w base spare held fuel 136 cs = some x) : ∃ e : Ru, cs = e.C.toList ∧ e.fit := by
  obtain ⟨x0, x1, x2, x3, x4, x5, x6, x7, x8, x9, rfl⟩ : ∃ x0 x1 x2 x3 x4 x5 x6 x7 x8 x9, cs = [x0, x1, x2, x3, x4, x5, x6, x7, x8, x9] := by
    match cs, hl with
    | [x0, x1, x2, x3, x4, x5, x6, x7, x8, x9], _ => exact ⟨x0, x1, x2, x3, x4, x5, x6, x7, x8, x9, rfl⟩
  obtain ⟨xs, n, _, _, _, hlen, hf⟩ := DataW.trod_struct Tryz.underlying136 h
  have hx : ∀ j, j < 6 → ∃ y, xs[j]? = some y := fun j hj => ⟨xs[j]'(by have : xs.length = 6 := hlen; omega), List.getElem?_eq_getElem _⟩
  obtain ⟨y0, e0⟩ := hx 0 (by decide)
  have hc0 : Tryz.prog.cellsOf 4 = 1 := by kernel_rfl
  have g0 : DataW.trod enc Tryz.prog w base spare held n 4 (([x0, x1, x2, x3, x4, x5, x6, x7, x8, x9].drop 0).take (Tryz.prog.cellsOf 4)) = xs[0]? := hf 0 _ rfl
  rw [hc0] at g0
  replace g0 : DataW.trod enc Tryz.prog w base spare held n 4 [x0] = some y0 := g0.trans e0
  obtain ⟨y1, e1⟩ := hx 1 (by decide)
  have hc1 : Tryz.prog.cellsOf 3 = 1 := by kernel_rfl
  have g1 : DataW.trod enc Tryz.prog w base spare held n 3 (([x0, x1, x2, x3, x4, x5, x6, x7, x8, x9].drop 1).take (Tryz.prog.cellsOf 3)) = xs[1]? := hf 1 _ rfl
  rw [hc1] at g1
  replace g1 : DataW.trod enc Tryz.prog w base spare held n 3 [x1] = some y1 := g1.trans e1
  obtain ⟨y2, e2⟩ := hx 2 (by decide)
  have hc2 : Tryz.prog.cellsOf 134 = 2 := by kernel_rfl
  have g2 : DataW.trod enc Tryz.prog w base spare held n 134 (([x0, x1, x2, x3, x4, x5, x6, x7, x8, x9].drop 2).take (Tryz.prog.cellsOf 134)) = xs[2]? := hf 2 _ rfl
  rw [hc2] at g2
  replace g2 : DataW.trod enc Tryz.prog w base spare held n 134 [x2, x3] = some y2 := g2.trans e2
  obtain ⟨y3, e3⟩ := hx 3 (by decide)
  have hc3 : Tryz.prog.cellsOf 134 = 2 := by kernel_rfl
  have g3 : DataW.trod enc Tryz.prog w base spare held n 134 (([x0, x1, x2, x3, x4, x5, x6, x7, x8, x9].drop 4).take (Tryz.prog.cellsOf 134)) = xs[3]? := hf 3 _ rfl
  rw [hc3] at g3
  replace g3 : DataW.trod enc Tryz.prog w base spare held n 134 [x4, x5] = some y3 := g3.trans e3
  obtain ⟨y4, e4⟩ := hx 4 (by decide)
  have hc4 : Tryz.prog.cellsOf 29 = 2 := by kernel_rfl
  have g4 : DataW.trod enc Tryz.prog w base spare held n 29 (([x0, x1, x2, x3, x4, x5, x6, x7, x8, x9].drop 6).take (Tryz.prog.cellsOf 29)) = xs[4]? := hf 4 _ rfl
  rw [hc4] at g4
  replace g4 : DataW.trod enc Tryz.prog w base spare held n 29 [x6, x7] = some y4 := g4.trans e4
  obtain ⟨y5, e5⟩ := hx 5 (by decide)
  have hc5 : Tryz.prog.cellsOf 29 = 2 := by kernel_rfl
  have g5 : DataW.trod enc Tryz.prog w base spare held n 29 (([x0, x1, x2, x3, x4, x5, x6, x7, x8, x9].drop 8).take (Tryz.prog.cellsOf 29)) = xs[5]? := hf 5 _ rfl
  rw [hc5] at g5
  replace g5 : DataW.trod enc Tryz.prog w base spare held n 29 [x8, x9] = some y5 := g5.trans e5
  obtain ⟨a0, h0, _⟩ := DataW.trod_bool Tryz.underlying4 g0
  simp only [List.cons.injEq, and_true] at h0
  subst h0
  obtain ⟨a1, h1, _, w1⟩ := DataW.trod_int Tryz.underlying3 g1
  simp only [List.cons.injEq, and_true] at h1
  subst h1
  obtain ⟨a2, a3, h2, u2⟩ := wild_cells rfl g2
  simp only [List.cons.injEq, and_true] at h2
  obtain ⟨rfl, rfl⟩ := h2
  obtain ⟨a4, a5, h3, u3⟩ := wild_cells rfl g3
  simp only [List.cons.injEq, and_true] at h3
  obtain ⟨rfl, rfl⟩ := h3
  obtain ⟨a6, a7, h4⟩ := rng_cells rfl g4
  simp only [List.cons.injEq, and_true] at h4
  obtain ⟨rfl, rfl⟩ := h4
  obtain ⟨a8, a9, h5⟩ := rng_cells rfl g5
  simp only [List.cons.injEq, and_true] at h5
  obtain ⟨rfl, rfl⟩ := h5
  exact ⟨⟨a0, a1, a2, a3, a4, a5, a6, a7, a8, a9⟩, by simp [Ru.C], ⟨u2.1, u2.2, u3.1, u3.2⟩⟩
set_option maxHeartbeats 1000000 in
theorem AList_cells {fuel : Nat} {cs : List Value} {x : DataW H × List MemPlace} (hl : cs.length = 2) (h : DataW.trod enc Tryz.prog w base spare held fuel 132 cs = some x) : ∃ e : AList, cs = e.C.toList ∧ (e.at w w.heap.size ∧ e.fit) := by
  obtain ⟨x0, x1, rfl⟩ : ∃ x0 x1, cs = [x0, x1] := by
    match cs, hl with
    | [x0, x1], _ => exact ⟨x0, x1, rfl⟩
  obtain ⟨xs, n, _, _, _, hlen, hf⟩ := DataW.trod_struct Tryz.underlying132 h
  have hx : ∀ j, j < 2 → ∃ y, xs[j]? = some y := fun j hj => ⟨xs[j]'(by have : xs.length = 2 := hlen; omega), List.getElem?_eq_getElem _⟩
  obtain ⟨y0, e0⟩ := hx 0 (by decide)
  have hc0 : Tryz.prog.cellsOf 9 = 1 := by kernel_rfl
  have g0 : DataW.trod enc Tryz.prog w base spare held n 9 (([x0, x1].drop 0).take (Tryz.prog.cellsOf 9)) = xs[0]? := hf 0 _ rfl
  rw [hc0] at g0
  replace g0 : DataW.trod enc Tryz.prog w base spare held n 9 [x0] = some y0 := g0.trans e0
  obtain ⟨y1, e1⟩ := hx 1 (by decide)
  have hc1 : Tryz.prog.cellsOf 130 = 1 := by kernel_rfl
  have g1 : DataW.trod enc Tryz.prog w base spare held n 130 (([x0, x1].drop 1).take (Tryz.prog.cellsOf 130)) = xs[1]? := hf 1 _ rfl
  rw [hc1] at g1
  replace g1 : DataW.trod enc Tryz.prog w base spare held n 130 [x1] = some y1 := g1.trans e1
  obtain ⟨a0, h0, _, w0⟩ := DataW.trod_string Tryz.underlying9 g0
  simp only [List.cons.injEq, and_true] at h0
  subst h0
  obtain ⟨v, es, h1, u1, s1⟩ := open_rows1 (default : Ru) Ru.C (fun (e : Ru) => e.fit) (n := 10) (by decide) (fun _ => rfl) Tryz.underlying130 (by kernel_rfl) (fun fuel cs x hl h => Ru_cells hl h) g1
  simp only [List.cons.injEq, and_true] at h1
  subst h1
  exact ⟨⟨bytes a0, x1, es⟩, by simp [AList.C, strV, str_bytes], ⟨u1, s1⟩⟩
set_option maxHeartbeats 1000000 in
theorem Tr_cells {fuel : Nat} {cs : List Value} {x : DataW H × List MemPlace} (hl : cs.length = 9) (h : DataW.trod enc Tryz.prog w base spare held fuel 139 cs = some x) : ∃ e : Tr, cs = e.C.toList ∧ e.fit := by
  obtain ⟨x0, x1, x2, x3, x4, x5, x6, x7, x8, rfl⟩ : ∃ x0 x1 x2 x3 x4 x5 x6 x7 x8, cs = [x0, x1, x2, x3, x4, x5, x6, x7, x8] := by
    match cs, hl with
    | [x0, x1, x2, x3, x4, x5, x6, x7, x8], _ => exact ⟨x0, x1, x2, x3, x4, x5, x6, x7, x8, rfl⟩
  obtain ⟨xs, n, _, _, _, hlen, hf⟩ := DataW.trod_struct Tryz.underlying139 h
  have hx : ∀ j, j < 9 → ∃ y, xs[j]? = some y := fun j hj => ⟨xs[j]'(by have : xs.length = 9 := hlen; omega), List.getElem?_eq_getElem _⟩
  obtain ⟨y0, e0⟩ := hx 0 (by decide)
  have hc0 : Tryz.prog.cellsOf 3 = 1 := by kernel_rfl
  have g0 : DataW.trod enc Tryz.prog w base spare held n 3 (([x0, x1, x2, x3, x4, x5, x6, x7, x8].drop 0).take (Tryz.prog.cellsOf 3)) = xs[0]? := hf 0 _ rfl
  rw [hc0] at g0
  replace g0 : DataW.trod enc Tryz.prog w base spare held n 3 [x0] = some y0 := g0.trans e0
  obtain ⟨y1, e1⟩ := hx 1 (by decide)
  have hc1 : Tryz.prog.cellsOf 25 = 1 := by kernel_rfl
  have g1 : DataW.trod enc Tryz.prog w base spare held n 25 (([x0, x1, x2, x3, x4, x5, x6, x7, x8].drop 1).take (Tryz.prog.cellsOf 25)) = xs[1]? := hf 1 _ rfl
  rw [hc1] at g1
  replace g1 : DataW.trod enc Tryz.prog w base spare held n 25 [x1] = some y1 := g1.trans e1
  obtain ⟨y2, e2⟩ := hx 2 (by decide)
  have hc2 : Tryz.prog.cellsOf 25 = 1 := by kernel_rfl
  have g2 : DataW.trod enc Tryz.prog w base spare held n 25 (([x0, x1, x2, x3, x4, x5, x6, x7, x8].drop 2).take (Tryz.prog.cellsOf 25)) = xs[2]? := hf 2 _ rfl
  rw [hc2] at g2
  replace g2 : DataW.trod enc Tryz.prog w base spare held n 25 [x2] = some y2 := g2.trans e2
  obtain ⟨y3, e3⟩ := hx 3 (by decide)
  have hc3 : Tryz.prog.cellsOf 3 = 1 := by kernel_rfl
  have g3 : DataW.trod enc Tryz.prog w base spare held n 3 (([x0, x1, x2, x3, x4, x5, x6, x7, x8].drop 3).take (Tryz.prog.cellsOf 3)) = xs[3]? := hf 3 _ rfl
  rw [hc3] at g3
  replace g3 : DataW.trod enc Tryz.prog w base spare held n 3 [x3] = some y3 := g3.trans e3
  obtain ⟨y4, e4⟩ := hx 4 (by decide)
  have hc4 : Tryz.prog.cellsOf 3 = 1 := by kernel_rfl
  have g4 : DataW.trod enc Tryz.prog w base spare held n 3 (([x0, x1, x2, x3, x4, x5, x6, x7, x8].drop 4).take (Tryz.prog.cellsOf 3)) = xs[4]? := hf 4 _ rfl
  rw [hc4] at g4
  replace g4 : DataW.trod enc Tryz.prog w base spare held n 3 [x4] = some y4 := g4.trans e4
  obtain ⟨y5, e5⟩ := hx 5 (by decide)
  have hc5 : Tryz.prog.cellsOf 3 = 1 := by kernel_rfl
  have g5 : DataW.trod enc Tryz.prog w base spare held n 3 (([x0, x1, x2, x3, x4, x5, x6, x7, x8].drop 5).take (Tryz.prog.cellsOf 3)) = xs[5]? := hf 5 _ rfl
  rw [hc5] at g5
  replace g5 : DataW.trod enc Tryz.prog w base spare held n 3 [x5] = some y5 := g5.trans e5
  obtain ⟨y6, e6⟩ := hx 6 (by decide)
  have hc6 : Tryz.prog.cellsOf 9 = 1 := by kernel_rfl
  have g6 : DataW.trod enc Tryz.prog w base spare held n 9 (([x0, x1, x2, x3, x4, x5, x6, x7, x8].drop 6).take (Tryz.prog.cellsOf 9)) = xs[6]? := hf 6 _ rfl
  rw [hc6] at g6
  replace g6 : DataW.trod enc Tryz.prog w base spare held n 9 [x6] = some y6 := g6.trans e6
  obtain ⟨y7, e7⟩ := hx 7 (by decide)
  have hc7 : Tryz.prog.cellsOf 25 = 1 := by kernel_rfl
  have g7 : DataW.trod enc Tryz.prog w base spare held n 25 (([x0, x1, x2, x3, x4, x5, x6, x7, x8].drop 7).take (Tryz.prog.cellsOf 25)) = xs[7]? := hf 7 _ rfl
  rw [hc7] at g7
  replace g7 : DataW.trod enc Tryz.prog w base spare held n 25 [x7] = some y7 := g7.trans e7
  obtain ⟨y8, e8⟩ := hx 8 (by decide)
  have hc8 : Tryz.prog.cellsOf 25 = 1 := by kernel_rfl
  have g8 : DataW.trod enc Tryz.prog w base spare held n 25 (([x0, x1, x2, x3, x4, x5, x6, x7, x8].drop 8).take (Tryz.prog.cellsOf 25)) = xs[8]? := hf 8 _ rfl
  rw [hc8] at g8
  replace g8 : DataW.trod enc Tryz.prog w base spare held n 25 [x8] = some y8 := g8.trans e8
  obtain ⟨a0, h0, _, w0⟩ := DataW.trod_int Tryz.underlying3 g0
  simp only [List.cons.injEq, and_true] at h0
  subst h0
  obtain ⟨b1, h1, _, w1⟩ := DataW.trod_int Tryz.underlying25 g1
  simp only [List.cons.injEq, and_true] at h1
  subst h1
  obtain ⟨a1, rfl, u1⟩ := u32_of w1
  obtain ⟨b2, h2, _, w2⟩ := DataW.trod_int Tryz.underlying25 g2
  simp only [List.cons.injEq, and_true] at h2
  subst h2
  obtain ⟨a2, rfl, u2⟩ := u32_of w2
  obtain ⟨a3, h3, _, w3⟩ := DataW.trod_int Tryz.underlying3 g3
  simp only [List.cons.injEq, and_true] at h3
  subst h3
  obtain ⟨a4, h4, _, w4⟩ := DataW.trod_int Tryz.underlying3 g4
  simp only [List.cons.injEq, and_true] at h4
  subst h4
  obtain ⟨a5, h5, _, w5⟩ := DataW.trod_int Tryz.underlying3 g5
  simp only [List.cons.injEq, and_true] at h5
  subst h5
  obtain ⟨a6, h6, _, w6⟩ := DataW.trod_string Tryz.underlying9 g6
  simp only [List.cons.injEq, and_true] at h6
  subst h6
  obtain ⟨b7, h7, _, w7⟩ := DataW.trod_int Tryz.underlying25 g7
  simp only [List.cons.injEq, and_true] at h7
  subst h7
  obtain ⟨a7, rfl, u7⟩ := u32_of w7
  obtain ⟨b8, h8, _, w8⟩ := DataW.trod_int Tryz.underlying25 g8
  simp only [List.cons.injEq, and_true] at h8
  subst h8
  obtain ⟨a8, rfl, u8⟩ := u32_of w8
  exact ⟨⟨a0, a1, a2, a3, a4, a5, bytes a6, a7, a8⟩, by simp [Tr.C, strV, str_bytes], ⟨u1, u2, u7, u8⟩⟩
set_option maxHeartbeats 1000000 in
theorem Sr_cells {fuel : Nat} {cs : List Value} {x : DataW H × List MemPlace} (hl : cs.length = 7) (h : DataW.trod enc Tryz.prog w base spare held fuel 142 cs = some x) : ∃ e : Sr, cs = e.C.toList ∧ e.fit := by
  obtain ⟨x0, x1, x2, x3, x4, x5, x6, rfl⟩ : ∃ x0 x1 x2 x3 x4 x5 x6, cs = [x0, x1, x2, x3, x4, x5, x6] := by
    match cs, hl with
    | [x0, x1, x2, x3, x4, x5, x6], _ => exact ⟨x0, x1, x2, x3, x4, x5, x6, rfl⟩
  obtain ⟨xs, n, _, _, _, hlen, hf⟩ := DataW.trod_struct Tryz.underlying142 h
  have hx : ∀ j, j < 6 → ∃ y, xs[j]? = some y := fun j hj => ⟨xs[j]'(by have : xs.length = 6 := hlen; omega), List.getElem?_eq_getElem _⟩
  obtain ⟨y0, e0⟩ := hx 0 (by decide)
  have hc0 : Tryz.prog.cellsOf 27 = 2 := by kernel_rfl
  have g0 : DataW.trod enc Tryz.prog w base spare held n 27 (([x0, x1, x2, x3, x4, x5, x6].drop 0).take (Tryz.prog.cellsOf 27)) = xs[0]? := hf 0 _ rfl
  rw [hc0] at g0
  replace g0 : DataW.trod enc Tryz.prog w base spare held n 27 [x0, x1] = some y0 := g0.trans e0
  obtain ⟨y1, e1⟩ := hx 1 (by decide)
  have hc1 : Tryz.prog.cellsOf 25 = 1 := by kernel_rfl
  have g1 : DataW.trod enc Tryz.prog w base spare held n 25 (([x0, x1, x2, x3, x4, x5, x6].drop 2).take (Tryz.prog.cellsOf 25)) = xs[1]? := hf 1 _ rfl
  rw [hc1] at g1
  replace g1 : DataW.trod enc Tryz.prog w base spare held n 25 [x2] = some y1 := g1.trans e1
  obtain ⟨y2, e2⟩ := hx 2 (by decide)
  have hc2 : Tryz.prog.cellsOf 9 = 1 := by kernel_rfl
  have g2 : DataW.trod enc Tryz.prog w base spare held n 9 (([x0, x1, x2, x3, x4, x5, x6].drop 3).take (Tryz.prog.cellsOf 9)) = xs[2]? := hf 2 _ rfl
  rw [hc2] at g2
  replace g2 : DataW.trod enc Tryz.prog w base spare held n 9 [x3] = some y2 := g2.trans e2
  obtain ⟨y3, e3⟩ := hx 3 (by decide)
  have hc3 : Tryz.prog.cellsOf 4 = 1 := by kernel_rfl
  have g3 : DataW.trod enc Tryz.prog w base spare held n 4 (([x0, x1, x2, x3, x4, x5, x6].drop 4).take (Tryz.prog.cellsOf 4)) = xs[3]? := hf 3 _ rfl
  rw [hc3] at g3
  replace g3 : DataW.trod enc Tryz.prog w base spare held n 4 [x4] = some y3 := g3.trans e3
  obtain ⟨y4, e4⟩ := hx 4 (by decide)
  have hc4 : Tryz.prog.cellsOf 3 = 1 := by kernel_rfl
  have g4 : DataW.trod enc Tryz.prog w base spare held n 3 (([x0, x1, x2, x3, x4, x5, x6].drop 5).take (Tryz.prog.cellsOf 3)) = xs[4]? := hf 4 _ rfl
  rw [hc4] at g4
  replace g4 : DataW.trod enc Tryz.prog w base spare held n 3 [x5] = some y4 := g4.trans e4
  obtain ⟨y5, e5⟩ := hx 5 (by decide)
  have hc5 : Tryz.prog.cellsOf 3 = 1 := by kernel_rfl
  have g5 : DataW.trod enc Tryz.prog w base spare held n 3 (([x0, x1, x2, x3, x4, x5, x6].drop 6).take (Tryz.prog.cellsOf 3)) = xs[5]? := hf 5 _ rfl
  rw [hc5] at g5
  replace g5 : DataW.trod enc Tryz.prog w base spare held n 3 [x6] = some y5 := g5.trans e5
  obtain ⟨a0, a1, h0, u0⟩ := pfx_cells rfl g0
  simp only [List.cons.injEq, and_true] at h0
  obtain ⟨rfl, rfl⟩ := h0
  obtain ⟨b1, h1, _, w1⟩ := DataW.trod_int Tryz.underlying25 g1
  simp only [List.cons.injEq, and_true] at h1
  subst h1
  obtain ⟨a2, rfl, u1⟩ := u32_of w1
  obtain ⟨a3, h2, _, w2⟩ := DataW.trod_string Tryz.underlying9 g2
  simp only [List.cons.injEq, and_true] at h2
  subst h2
  obtain ⟨a4, h3, _⟩ := DataW.trod_bool Tryz.underlying4 g3
  simp only [List.cons.injEq, and_true] at h3
  subst h3
  obtain ⟨a5, h4, _, w4⟩ := DataW.trod_int Tryz.underlying3 g4
  simp only [List.cons.injEq, and_true] at h4
  subst h4
  obtain ⟨a6, h5, _, w5⟩ := DataW.trod_int Tryz.underlying3 g5
  simp only [List.cons.injEq, and_true] at h5
  subst h5
  exact ⟨⟨a0, a1, a2, bytes a3, a4, a5, a6⟩, by simp [Sr.C, strV, str_bytes], ⟨u0, u1⟩⟩
set_option maxHeartbeats 1000000 in
theorem Rd_cells {fuel : Nat} {cs : List Value} {x : DataW H × List MemPlace} (hl : cs.length = 5) (h : DataW.trod enc Tryz.prog w base spare held fuel 167 cs = some x) : ∃ e : Rd, cs = e.C.toList ∧ e.fit := by
  obtain ⟨x0, x1, x2, x3, x4, rfl⟩ : ∃ x0 x1 x2 x3 x4, cs = [x0, x1, x2, x3, x4] := by
    match cs, hl with
    | [x0, x1, x2, x3, x4], _ => exact ⟨x0, x1, x2, x3, x4, rfl⟩
  obtain ⟨xs, n, _, _, _, hlen, hf⟩ := DataW.trod_struct Tryz.underlying167 h
  have hx : ∀ j, j < 5 → ∃ y, xs[j]? = some y := fun j hj => ⟨xs[j]'(by have : xs.length = 5 := hlen; omega), List.getElem?_eq_getElem _⟩
  obtain ⟨y0, e0⟩ := hx 0 (by decide)
  have hc0 : Tryz.prog.cellsOf 3 = 1 := by kernel_rfl
  have g0 : DataW.trod enc Tryz.prog w base spare held n 3 (([x0, x1, x2, x3, x4].drop 0).take (Tryz.prog.cellsOf 3)) = xs[0]? := hf 0 _ rfl
  rw [hc0] at g0
  replace g0 : DataW.trod enc Tryz.prog w base spare held n 3 [x0] = some y0 := g0.trans e0
  obtain ⟨y1, e1⟩ := hx 1 (by decide)
  have hc1 : Tryz.prog.cellsOf 3 = 1 := by kernel_rfl
  have g1 : DataW.trod enc Tryz.prog w base spare held n 3 (([x0, x1, x2, x3, x4].drop 1).take (Tryz.prog.cellsOf 3)) = xs[1]? := hf 1 _ rfl
  rw [hc1] at g1
  replace g1 : DataW.trod enc Tryz.prog w base spare held n 3 [x1] = some y1 := g1.trans e1
  obtain ⟨y2, e2⟩ := hx 2 (by decide)
  have hc2 : Tryz.prog.cellsOf 3 = 1 := by kernel_rfl
  have g2 : DataW.trod enc Tryz.prog w base spare held n 3 (([x0, x1, x2, x3, x4].drop 2).take (Tryz.prog.cellsOf 3)) = xs[2]? := hf 2 _ rfl
  rw [hc2] at g2
  replace g2 : DataW.trod enc Tryz.prog w base spare held n 3 [x2] = some y2 := g2.trans e2
  obtain ⟨y3, e3⟩ := hx 3 (by decide)
  have hc3 : Tryz.prog.cellsOf 9 = 1 := by kernel_rfl
  have g3 : DataW.trod enc Tryz.prog w base spare held n 9 (([x0, x1, x2, x3, x4].drop 3).take (Tryz.prog.cellsOf 9)) = xs[3]? := hf 3 _ rfl
  rw [hc3] at g3
  replace g3 : DataW.trod enc Tryz.prog w base spare held n 9 [x3] = some y3 := g3.trans e3
  obtain ⟨y4, e4⟩ := hx 4 (by decide)
  have hc4 : Tryz.prog.cellsOf 3 = 1 := by kernel_rfl
  have g4 : DataW.trod enc Tryz.prog w base spare held n 3 (([x0, x1, x2, x3, x4].drop 4).take (Tryz.prog.cellsOf 3)) = xs[4]? := hf 4 _ rfl
  rw [hc4] at g4
  replace g4 : DataW.trod enc Tryz.prog w base spare held n 3 [x4] = some y4 := g4.trans e4
  obtain ⟨a0, h0, _, w0⟩ := DataW.trod_int Tryz.underlying3 g0
  simp only [List.cons.injEq, and_true] at h0
  subst h0
  obtain ⟨a1, h1, _, w1⟩ := DataW.trod_int Tryz.underlying3 g1
  simp only [List.cons.injEq, and_true] at h1
  subst h1
  obtain ⟨a2, h2, _, w2⟩ := DataW.trod_int Tryz.underlying3 g2
  simp only [List.cons.injEq, and_true] at h2
  subst h2
  obtain ⟨a3, h3, _, w3⟩ := DataW.trod_string Tryz.underlying9 g3
  simp only [List.cons.injEq, and_true] at h3
  subst h3
  obtain ⟨a4, h4, _, w4⟩ := DataW.trod_int Tryz.underlying3 g4
  simp only [List.cons.injEq, and_true] at h4
  subst h4
  exact ⟨⟨a0, a1, a2, bytes a3, a4⟩, by simp [Rd.C, strV, str_bytes], trivial⟩
set_option maxHeartbeats 1000000 in
theorem AR_cells {fuel : Nat} {cs : List Value} {x : DataW H × List MemPlace} (hl : cs.length = 3) (h : DataW.trod enc Tryz.prog w base spare held fuel 145 cs = some x) : ∃ e : AR, cs = e.C.toList ∧ e.fit := by
  obtain ⟨x0, x1, x2, rfl⟩ : ∃ x0 x1 x2, cs = [x0, x1, x2] := by
    match cs, hl with
    | [x0, x1, x2], _ => exact ⟨x0, x1, x2, rfl⟩
  obtain ⟨xs, n, _, _, _, hlen, hf⟩ := DataW.trod_struct Tryz.underlying145 h
  have hx : ∀ j, j < 2 → ∃ y, xs[j]? = some y := fun j hj => ⟨xs[j]'(by have : xs.length = 2 := hlen; omega), List.getElem?_eq_getElem _⟩
  obtain ⟨y0, e0⟩ := hx 0 (by decide)
  have hc0 : Tryz.prog.cellsOf 3 = 1 := by kernel_rfl
  have g0 : DataW.trod enc Tryz.prog w base spare held n 3 (([x0, x1, x2].drop 0).take (Tryz.prog.cellsOf 3)) = xs[0]? := hf 0 _ rfl
  rw [hc0] at g0
  replace g0 : DataW.trod enc Tryz.prog w base spare held n 3 [x0] = some y0 := g0.trans e0
  obtain ⟨y1, e1⟩ := hx 1 (by decide)
  have hc1 : Tryz.prog.cellsOf 27 = 2 := by kernel_rfl
  have g1 : DataW.trod enc Tryz.prog w base spare held n 27 (([x0, x1, x2].drop 1).take (Tryz.prog.cellsOf 27)) = xs[1]? := hf 1 _ rfl
  rw [hc1] at g1
  replace g1 : DataW.trod enc Tryz.prog w base spare held n 27 [x1, x2] = some y1 := g1.trans e1
  obtain ⟨a0, h0, _, w0⟩ := DataW.trod_int Tryz.underlying3 g0
  simp only [List.cons.injEq, and_true] at h0
  subst h0
  obtain ⟨a1, a2, h1, u1⟩ := pfx_cells rfl g1
  simp only [List.cons.injEq, and_true] at h1
  obtain ⟨rfl, rfl⟩ := h1
  exact ⟨⟨a0, a1, a2⟩, by simp [AR.C], u1⟩
set_option maxHeartbeats 1000000 in
theorem Nb_cells {fuel : Nat} {cs : List Value} {x : DataW H × List MemPlace} (hl : cs.length = 4) (h : DataW.trod enc Tryz.prog w base spare held fuel 169 cs = some x) : ∃ e : Nb, cs = e.C.toList ∧ e.fit := by
  obtain ⟨x0, x1, x2, x3, rfl⟩ : ∃ x0 x1 x2 x3, cs = [x0, x1, x2, x3] := by
    match cs, hl with
    | [x0, x1, x2, x3], _ => exact ⟨x0, x1, x2, x3, rfl⟩
  obtain ⟨xs, n, _, _, _, hlen, hf⟩ := DataW.trod_struct Tryz.underlying169 h
  have hx : ∀ j, j < 4 → ∃ y, xs[j]? = some y := fun j hj => ⟨xs[j]'(by have : xs.length = 4 := hlen; omega), List.getElem?_eq_getElem _⟩
  obtain ⟨y0, e0⟩ := hx 0 (by decide)
  have hc0 : Tryz.prog.cellsOf 25 = 1 := by kernel_rfl
  have g0 : DataW.trod enc Tryz.prog w base spare held n 25 (([x0, x1, x2, x3].drop 0).take (Tryz.prog.cellsOf 25)) = xs[0]? := hf 0 _ rfl
  rw [hc0] at g0
  replace g0 : DataW.trod enc Tryz.prog w base spare held n 25 [x0] = some y0 := g0.trans e0
  obtain ⟨y1, e1⟩ := hx 1 (by decide)
  have hc1 : Tryz.prog.cellsOf 3 = 1 := by kernel_rfl
  have g1 : DataW.trod enc Tryz.prog w base spare held n 3 (([x0, x1, x2, x3].drop 1).take (Tryz.prog.cellsOf 3)) = xs[1]? := hf 1 _ rfl
  rw [hc1] at g1
  replace g1 : DataW.trod enc Tryz.prog w base spare held n 3 [x1] = some y1 := g1.trans e1
  obtain ⟨y2, e2⟩ := hx 2 (by decide)
  have hc2 : Tryz.prog.cellsOf 9 = 1 := by kernel_rfl
  have g2 : DataW.trod enc Tryz.prog w base spare held n 9 (([x0, x1, x2, x3].drop 2).take (Tryz.prog.cellsOf 9)) = xs[2]? := hf 2 _ rfl
  rw [hc2] at g2
  replace g2 : DataW.trod enc Tryz.prog w base spare held n 9 [x2] = some y2 := g2.trans e2
  obtain ⟨y3, e3⟩ := hx 3 (by decide)
  have hc3 : Tryz.prog.cellsOf 9 = 1 := by kernel_rfl
  have g3 : DataW.trod enc Tryz.prog w base spare held n 9 (([x0, x1, x2, x3].drop 3).take (Tryz.prog.cellsOf 9)) = xs[3]? := hf 3 _ rfl
  rw [hc3] at g3
  replace g3 : DataW.trod enc Tryz.prog w base spare held n 9 [x3] = some y3 := g3.trans e3
  obtain ⟨b0, h0, _, w0⟩ := DataW.trod_int Tryz.underlying25 g0
  simp only [List.cons.injEq, and_true] at h0
  subst h0
  obtain ⟨a0, rfl, u0⟩ := u32_of w0
  obtain ⟨a1, h1, _, w1⟩ := DataW.trod_int Tryz.underlying3 g1
  simp only [List.cons.injEq, and_true] at h1
  subst h1
  obtain ⟨a2, h2, _, w2⟩ := DataW.trod_string Tryz.underlying9 g2
  simp only [List.cons.injEq, and_true] at h2
  subst h2
  obtain ⟨a3, h3, _, w3⟩ := DataW.trod_string Tryz.underlying9 g3
  simp only [List.cons.injEq, and_true] at h3
  subst h3
  exact ⟨⟨a0, a1, bytes a2, bytes a3⟩, by simp [Nb.C, strV, str_bytes], u0⟩
set_option maxHeartbeats 1000000 in
theorem Pf_cells {fuel : Nat} {cs : List Value} {x : DataW H × List MemPlace} (hl : cs.length = 2) (h : DataW.trod enc Tryz.prog w base spare held fuel 27 cs = some x) : ∃ e : Pf, cs = e.C.toList ∧ e.fit := by
  obtain ⟨x0, x1, rfl⟩ : ∃ x0 x1, cs = [x0, x1] := by
    match cs, hl with
    | [x0, x1], _ => exact ⟨x0, x1, rfl⟩
  obtain ⟨xs, n, _, _, _, hlen, hf⟩ := DataW.trod_struct Tryz.underlying27 h
  have hx : ∀ j, j < 2 → ∃ y, xs[j]? = some y := fun j hj => ⟨xs[j]'(by have : xs.length = 2 := hlen; omega), List.getElem?_eq_getElem _⟩
  obtain ⟨y0, e0⟩ := hx 0 (by decide)
  have hc0 : Tryz.prog.cellsOf 25 = 1 := by kernel_rfl
  have g0 : DataW.trod enc Tryz.prog w base spare held n 25 (([x0, x1].drop 0).take (Tryz.prog.cellsOf 25)) = xs[0]? := hf 0 _ rfl
  rw [hc0] at g0
  replace g0 : DataW.trod enc Tryz.prog w base spare held n 25 [x0] = some y0 := g0.trans e0
  obtain ⟨y1, e1⟩ := hx 1 (by decide)
  have hc1 : Tryz.prog.cellsOf 3 = 1 := by kernel_rfl
  have g1 : DataW.trod enc Tryz.prog w base spare held n 3 (([x0, x1].drop 1).take (Tryz.prog.cellsOf 3)) = xs[1]? := hf 1 _ rfl
  rw [hc1] at g1
  replace g1 : DataW.trod enc Tryz.prog w base spare held n 3 [x1] = some y1 := g1.trans e1
  obtain ⟨b0, h0, _, w0⟩ := DataW.trod_int Tryz.underlying25 g0
  simp only [List.cons.injEq, and_true] at h0
  subst h0
  obtain ⟨a0, rfl, u0⟩ := u32_of w0
  obtain ⟨a1, h1, _, w1⟩ := DataW.trod_int Tryz.underlying3 g1
  simp only [List.cons.injEq, and_true] at h1
  subst h1
  exact ⟨⟨a0, a1⟩, by simp [Pf.C], u0⟩
set_option maxHeartbeats 1000000 in
theorem Ag_cells {fuel : Nat} {cs : List Value} {x : DataW H × List MemPlace} (hl : cs.length = 3) (h : DataW.trod enc Tryz.prog w base spare held fuel 172 cs = some x) : ∃ e : Ag, cs = e.C.toList ∧ e.fit := by
  obtain ⟨x0, x1, x2, rfl⟩ : ∃ x0 x1 x2, cs = [x0, x1, x2] := by
    match cs, hl with
    | [x0, x1, x2], _ => exact ⟨x0, x1, x2, rfl⟩
  obtain ⟨xs, n, _, _, _, hlen, hf⟩ := DataW.trod_struct Tryz.underlying172 h
  have hx : ∀ j, j < 2 → ∃ y, xs[j]? = some y := fun j hj => ⟨xs[j]'(by have : xs.length = 2 := hlen; omega), List.getElem?_eq_getElem _⟩
  obtain ⟨y0, e0⟩ := hx 0 (by decide)
  have hc0 : Tryz.prog.cellsOf 27 = 2 := by kernel_rfl
  have g0 : DataW.trod enc Tryz.prog w base spare held n 27 (([x0, x1, x2].drop 0).take (Tryz.prog.cellsOf 27)) = xs[0]? := hf 0 _ rfl
  rw [hc0] at g0
  replace g0 : DataW.trod enc Tryz.prog w base spare held n 27 [x0, x1] = some y0 := g0.trans e0
  obtain ⟨y1, e1⟩ := hx 1 (by decide)
  have hc1 : Tryz.prog.cellsOf 4 = 1 := by kernel_rfl
  have g1 : DataW.trod enc Tryz.prog w base spare held n 4 (([x0, x1, x2].drop 2).take (Tryz.prog.cellsOf 4)) = xs[1]? := hf 1 _ rfl
  rw [hc1] at g1
  replace g1 : DataW.trod enc Tryz.prog w base spare held n 4 [x2] = some y1 := g1.trans e1
  obtain ⟨a0, a1, h0, u0⟩ := pfx_cells rfl g0
  simp only [List.cons.injEq, and_true] at h0
  obtain ⟨rfl, rfl⟩ := h0
  obtain ⟨a2, h1, _⟩ := DataW.trod_bool Tryz.underlying4 g1
  simp only [List.cons.injEq, and_true] at h1
  subst h1
  exact ⟨⟨a0, a1, a2⟩, by simp [Ag.C], u0⟩
set_option maxHeartbeats 1000000 in
theorem Cd_cells {fuel : Nat} {cs : List Value} {x : DataW H × List MemPlace} (hl : cs.length = 5) (h : DataW.trod enc Tryz.prog w base spare held fuel 174 cs = some x) : ∃ e : Cd, cs = e.C.toList ∧ e.fit := by
  obtain ⟨x0, x1, x2, x3, x4, rfl⟩ : ∃ x0 x1 x2 x3 x4, cs = [x0, x1, x2, x3, x4] := by
    match cs, hl with
    | [x0, x1, x2, x3, x4], _ => exact ⟨x0, x1, x2, x3, x4, rfl⟩
  obtain ⟨xs, n, _, _, _, hlen, hf⟩ := DataW.trod_struct Tryz.underlying174 h
  have hx : ∀ j, j < 3 → ∃ y, xs[j]? = some y := fun j hj => ⟨xs[j]'(by have : xs.length = 3 := hlen; omega), List.getElem?_eq_getElem _⟩
  obtain ⟨y0, e0⟩ := hx 0 (by decide)
  have hc0 : Tryz.prog.cellsOf 27 = 2 := by kernel_rfl
  have g0 : DataW.trod enc Tryz.prog w base spare held n 27 (([x0, x1, x2, x3, x4].drop 0).take (Tryz.prog.cellsOf 27)) = xs[0]? := hf 0 _ rfl
  rw [hc0] at g0
  replace g0 : DataW.trod enc Tryz.prog w base spare held n 27 [x0, x1] = some y0 := g0.trans e0
  obtain ⟨y1, e1⟩ := hx 1 (by decide)
  have hc1 : Tryz.prog.cellsOf 27 = 2 := by kernel_rfl
  have g1 : DataW.trod enc Tryz.prog w base spare held n 27 (([x0, x1, x2, x3, x4].drop 2).take (Tryz.prog.cellsOf 27)) = xs[1]? := hf 1 _ rfl
  rw [hc1] at g1
  replace g1 : DataW.trod enc Tryz.prog w base spare held n 27 [x2, x3] = some y1 := g1.trans e1
  obtain ⟨y2, e2⟩ := hx 2 (by decide)
  have hc2 : Tryz.prog.cellsOf 4 = 1 := by kernel_rfl
  have g2 : DataW.trod enc Tryz.prog w base spare held n 4 (([x0, x1, x2, x3, x4].drop 4).take (Tryz.prog.cellsOf 4)) = xs[2]? := hf 2 _ rfl
  rw [hc2] at g2
  replace g2 : DataW.trod enc Tryz.prog w base spare held n 4 [x4] = some y2 := g2.trans e2
  obtain ⟨a0, a1, h0, u0⟩ := pfx_cells rfl g0
  simp only [List.cons.injEq, and_true] at h0
  obtain ⟨rfl, rfl⟩ := h0
  obtain ⟨a2, a3, h1, u1⟩ := pfx_cells rfl g1
  simp only [List.cons.injEq, and_true] at h1
  obtain ⟨rfl, rfl⟩ := h1
  obtain ⟨a4, h2, _⟩ := DataW.trod_bool Tryz.underlying4 g2
  simp only [List.cons.injEq, and_true] at h2
  subst h2
  exact ⟨⟨a0, a1, a2, a3, a4⟩, by simp [Cd.C], ⟨u0, u1⟩⟩
set_option maxHeartbeats 1000000 in
theorem ls_cells {fuel : Nat} {cs : List Value} {x : DataW H × List MemPlace} (hl : cs.length = 4) (h : DataW.trod enc Tryz.prog w base spare held fuel 59 cs = some x) : ∃ (a0 : Bool) (a1 : Int) (v2 : Value) (l2 : List AR) (v3 : Value) (l3 : List Rd), cs = [.bool a0, .int .i64 a1, v2, v3] ∧ (SlV w w.heap.size 3 AR.C v2 l2 ∧ (∀ e ∈ l2, e.fit)) ∧ (SlV w w.heap.size 5 Rd.C v3 l3 ∧ (∀ e ∈ l3, e.fit)) := by
  obtain ⟨x0, x1, x2, x3, rfl⟩ : ∃ x0 x1 x2 x3, cs = [x0, x1, x2, x3] := by
    match cs, hl with
    | [x0, x1, x2, x3], _ => exact ⟨x0, x1, x2, x3, rfl⟩
  obtain ⟨xs, n, _, _, _, hlen, hf⟩ := DataW.trod_struct Tryz.underlying59 h
  have hx : ∀ j, j < 4 → ∃ y, xs[j]? = some y := fun j hj => ⟨xs[j]'(by have : xs.length = 4 := hlen; omega), List.getElem?_eq_getElem _⟩
  obtain ⟨y0, e0⟩ := hx 0 (by decide)
  have hc0 : Tryz.prog.cellsOf 4 = 1 := by kernel_rfl
  have g0 : DataW.trod enc Tryz.prog w base spare held n 4 (([x0, x1, x2, x3].drop 0).take (Tryz.prog.cellsOf 4)) = xs[0]? := hf 0 _ rfl
  rw [hc0] at g0
  replace g0 : DataW.trod enc Tryz.prog w base spare held n 4 [x0] = some y0 := g0.trans e0
  obtain ⟨y1, e1⟩ := hx 1 (by decide)
  have hc1 : Tryz.prog.cellsOf 3 = 1 := by kernel_rfl
  have g1 : DataW.trod enc Tryz.prog w base spare held n 3 (([x0, x1, x2, x3].drop 1).take (Tryz.prog.cellsOf 3)) = xs[1]? := hf 1 _ rfl
  rw [hc1] at g1
  replace g1 : DataW.trod enc Tryz.prog w base spare held n 3 [x1] = some y1 := g1.trans e1
  obtain ⟨y2, e2⟩ := hx 2 (by decide)
  have hc2 : Tryz.prog.cellsOf 56 = 1 := by kernel_rfl
  have g2 : DataW.trod enc Tryz.prog w base spare held n 56 (([x0, x1, x2, x3].drop 2).take (Tryz.prog.cellsOf 56)) = xs[2]? := hf 2 _ rfl
  rw [hc2] at g2
  replace g2 : DataW.trod enc Tryz.prog w base spare held n 56 [x2] = some y2 := g2.trans e2
  obtain ⟨y3, e3⟩ := hx 3 (by decide)
  have hc3 : Tryz.prog.cellsOf 57 = 1 := by kernel_rfl
  have g3 : DataW.trod enc Tryz.prog w base spare held n 57 (([x0, x1, x2, x3].drop 3).take (Tryz.prog.cellsOf 57)) = xs[3]? := hf 3 _ rfl
  rw [hc3] at g3
  replace g3 : DataW.trod enc Tryz.prog w base spare held n 57 [x3] = some y3 := g3.trans e3
  obtain ⟨a0, h0, _⟩ := DataW.trod_bool Tryz.underlying4 g0
  simp only [List.cons.injEq, and_true] at h0
  subst h0
  obtain ⟨a1, h1, _, w1⟩ := DataW.trod_int Tryz.underlying3 g1
  simp only [List.cons.injEq, and_true] at h1
  subst h1
  obtain ⟨v2, l2, h2, u2, s2⟩ := open_rows1 (default : AR) AR.C (fun (e : AR) => e.fit) (n := 3) (by decide) (fun _ => rfl) Tryz.underlying56 (by kernel_rfl) (fun fuel cs x hl h => AR_cells hl h) g2
  simp only [List.cons.injEq, and_true] at h2
  subst h2
  obtain ⟨v3, l3, h3, u3, s3⟩ := open_rows1 (default : Rd) Rd.C (fun (e : Rd) => e.fit) (n := 5) (by decide) (fun _ => rfl) Tryz.underlying57 (by kernel_rfl) (fun fuel cs x hl h => Rd_cells hl h) g3
  simp only [List.cons.injEq, and_true] at h3
  subst h3
  exact ⟨a0, a1, x2, l2, x3, l3, rfl, ⟨u2, s2⟩, u3, s3⟩
set_option maxHeartbeats 1000000 in
theorem dv_cells {fuel : Nat} {cs : List Value} {x : DataW H × List MemPlace} (hl : cs.length = 5) (h : DataW.trod enc Tryz.prog w base spare held fuel 61 cs = some x) : ∃ (a0 : Bool) (a1 : Int) (a2 a3 : ByteArray) (v4 : Value) (l4 : List Rd), cs = [.bool a0, .int .i64 a1, .string a2, .string a3, v4] ∧ (SlV w w.heap.size 5 Rd.C v4 l4 ∧ (∀ e ∈ l4, e.fit)) := by
  obtain ⟨x0, x1, x2, x3, x4, rfl⟩ : ∃ x0 x1 x2 x3 x4, cs = [x0, x1, x2, x3, x4] := by
    match cs, hl with
    | [x0, x1, x2, x3, x4], _ => exact ⟨x0, x1, x2, x3, x4, rfl⟩
  obtain ⟨xs, n, _, _, _, hlen, hf⟩ := DataW.trod_struct Tryz.underlying61 h
  have hx : ∀ j, j < 5 → ∃ y, xs[j]? = some y := fun j hj => ⟨xs[j]'(by have : xs.length = 5 := hlen; omega), List.getElem?_eq_getElem _⟩
  obtain ⟨y0, e0⟩ := hx 0 (by decide)
  have hc0 : Tryz.prog.cellsOf 4 = 1 := by kernel_rfl
  have g0 : DataW.trod enc Tryz.prog w base spare held n 4 (([x0, x1, x2, x3, x4].drop 0).take (Tryz.prog.cellsOf 4)) = xs[0]? := hf 0 _ rfl
  rw [hc0] at g0
  replace g0 : DataW.trod enc Tryz.prog w base spare held n 4 [x0] = some y0 := g0.trans e0
  obtain ⟨y1, e1⟩ := hx 1 (by decide)
  have hc1 : Tryz.prog.cellsOf 3 = 1 := by kernel_rfl
  have g1 : DataW.trod enc Tryz.prog w base spare held n 3 (([x0, x1, x2, x3, x4].drop 1).take (Tryz.prog.cellsOf 3)) = xs[1]? := hf 1 _ rfl
  rw [hc1] at g1
  replace g1 : DataW.trod enc Tryz.prog w base spare held n 3 [x1] = some y1 := g1.trans e1
  obtain ⟨y2, e2⟩ := hx 2 (by decide)
  have hc2 : Tryz.prog.cellsOf 9 = 1 := by kernel_rfl
  have g2 : DataW.trod enc Tryz.prog w base spare held n 9 (([x0, x1, x2, x3, x4].drop 2).take (Tryz.prog.cellsOf 9)) = xs[2]? := hf 2 _ rfl
  rw [hc2] at g2
  replace g2 : DataW.trod enc Tryz.prog w base spare held n 9 [x2] = some y2 := g2.trans e2
  obtain ⟨y3, e3⟩ := hx 3 (by decide)
  have hc3 : Tryz.prog.cellsOf 9 = 1 := by kernel_rfl
  have g3 : DataW.trod enc Tryz.prog w base spare held n 9 (([x0, x1, x2, x3, x4].drop 3).take (Tryz.prog.cellsOf 9)) = xs[3]? := hf 3 _ rfl
  rw [hc3] at g3
  replace g3 : DataW.trod enc Tryz.prog w base spare held n 9 [x3] = some y3 := g3.trans e3
  obtain ⟨y4, e4⟩ := hx 4 (by decide)
  have hc4 : Tryz.prog.cellsOf 57 = 1 := by kernel_rfl
  have g4 : DataW.trod enc Tryz.prog w base spare held n 57 (([x0, x1, x2, x3, x4].drop 4).take (Tryz.prog.cellsOf 57)) = xs[4]? := hf 4 _ rfl
  rw [hc4] at g4
  replace g4 : DataW.trod enc Tryz.prog w base spare held n 57 [x4] = some y4 := g4.trans e4
  obtain ⟨a0, h0, _⟩ := DataW.trod_bool Tryz.underlying4 g0
  simp only [List.cons.injEq, and_true] at h0
  subst h0
  obtain ⟨a1, h1, _, w1⟩ := DataW.trod_int Tryz.underlying3 g1
  simp only [List.cons.injEq, and_true] at h1
  subst h1
  obtain ⟨a2, h2, _, w2⟩ := DataW.trod_string Tryz.underlying9 g2
  simp only [List.cons.injEq, and_true] at h2
  subst h2
  obtain ⟨a3, h3, _, w3⟩ := DataW.trod_string Tryz.underlying9 g3
  simp only [List.cons.injEq, and_true] at h3
  subst h3
  obtain ⟨v4, l4, h4, u4, s4⟩ := open_rows1 (default : Rd) Rd.C (fun (e : Rd) => e.fit) (n := 5) (by decide) (fun _ => rfl) Tryz.underlying57 (by kernel_rfl) (fun fuel cs x hl h => Rd_cells hl h) g4
  simp only [List.cons.injEq, and_true] at h4
  subst h4
  exact ⟨a0, a1, a2, a3, x4, l4, rfl, u4, s4⟩
set_option maxHeartbeats 1000000 in
theorem pv_cells {fuel : Nat} {cs : List Value} {x : DataW H × List MemPlace} (hl : cs.length = 8) (h : DataW.trod enc Tryz.prog w base spare held fuel 67 cs = some x) : ∃ (a0 : Bool) (a1 a2 : Int) (v3 : Value) (l3 : List Nb) (v4 : Value) (l4 : List Pf) (v5 : Value) (l5 : List Ag) (v6 : Value) (l6 : List Cd) (v7 : Value) (l7 : List Rd), cs = [.bool a0, .int .i64 a1, .int .i64 a2, v3, v4, v5, v6, v7] ∧ (SlV w w.heap.size 4 Nb.C v3 l3 ∧ (∀ e ∈ l3, e.fit)) ∧ (SlV w w.heap.size 2 Pf.C v4 l4 ∧ (∀ e ∈ l4, e.fit)) ∧ (SlV w w.heap.size 3 Ag.C v5 l5 ∧ (∀ e ∈ l5, e.fit)) ∧ (SlV w w.heap.size 5 Cd.C v6 l6 ∧ (∀ e ∈ l6, e.fit)) ∧ (SlV w w.heap.size 5 Rd.C v7 l7 ∧ (∀ e ∈ l7, e.fit)) := by
  obtain ⟨x0, x1, x2, x3, x4, x5, x6, x7, rfl⟩ : ∃ x0 x1 x2 x3 x4 x5 x6 x7, cs = [x0, x1, x2, x3, x4, x5, x6, x7] := by
    match cs, hl with
    | [x0, x1, x2, x3, x4, x5, x6, x7], _ => exact ⟨x0, x1, x2, x3, x4, x5, x6, x7, rfl⟩
  obtain ⟨xs, n, _, _, _, hlen, hf⟩ := DataW.trod_struct Tryz.underlying67 h
  have hx : ∀ j, j < 8 → ∃ y, xs[j]? = some y := fun j hj => ⟨xs[j]'(by have : xs.length = 8 := hlen; omega), List.getElem?_eq_getElem _⟩
  obtain ⟨y0, e0⟩ := hx 0 (by decide)
  have hc0 : Tryz.prog.cellsOf 4 = 1 := by kernel_rfl
  have g0 : DataW.trod enc Tryz.prog w base spare held n 4 (([x0, x1, x2, x3, x4, x5, x6, x7].drop 0).take (Tryz.prog.cellsOf 4)) = xs[0]? := hf 0 _ rfl
  rw [hc0] at g0
  replace g0 : DataW.trod enc Tryz.prog w base spare held n 4 [x0] = some y0 := g0.trans e0
  obtain ⟨y1, e1⟩ := hx 1 (by decide)
  have hc1 : Tryz.prog.cellsOf 3 = 1 := by kernel_rfl
  have g1 : DataW.trod enc Tryz.prog w base spare held n 3 (([x0, x1, x2, x3, x4, x5, x6, x7].drop 1).take (Tryz.prog.cellsOf 3)) = xs[1]? := hf 1 _ rfl
  rw [hc1] at g1
  replace g1 : DataW.trod enc Tryz.prog w base spare held n 3 [x1] = some y1 := g1.trans e1
  obtain ⟨y2, e2⟩ := hx 2 (by decide)
  have hc2 : Tryz.prog.cellsOf 3 = 1 := by kernel_rfl
  have g2 : DataW.trod enc Tryz.prog w base spare held n 3 (([x0, x1, x2, x3, x4, x5, x6, x7].drop 2).take (Tryz.prog.cellsOf 3)) = xs[2]? := hf 2 _ rfl
  rw [hc2] at g2
  replace g2 : DataW.trod enc Tryz.prog w base spare held n 3 [x2] = some y2 := g2.trans e2
  obtain ⟨y3, e3⟩ := hx 3 (by decide)
  have hc3 : Tryz.prog.cellsOf 62 = 1 := by kernel_rfl
  have g3 : DataW.trod enc Tryz.prog w base spare held n 62 (([x0, x1, x2, x3, x4, x5, x6, x7].drop 3).take (Tryz.prog.cellsOf 62)) = xs[3]? := hf 3 _ rfl
  rw [hc3] at g3
  replace g3 : DataW.trod enc Tryz.prog w base spare held n 62 [x3] = some y3 := g3.trans e3
  obtain ⟨y4, e4⟩ := hx 4 (by decide)
  have hc4 : Tryz.prog.cellsOf 63 = 1 := by kernel_rfl
  have g4 : DataW.trod enc Tryz.prog w base spare held n 63 (([x0, x1, x2, x3, x4, x5, x6, x7].drop 4).take (Tryz.prog.cellsOf 63)) = xs[4]? := hf 4 _ rfl
  rw [hc4] at g4
  replace g4 : DataW.trod enc Tryz.prog w base spare held n 63 [x4] = some y4 := g4.trans e4
  obtain ⟨y5, e5⟩ := hx 5 (by decide)
  have hc5 : Tryz.prog.cellsOf 64 = 1 := by kernel_rfl
  have g5 : DataW.trod enc Tryz.prog w base spare held n 64 (([x0, x1, x2, x3, x4, x5, x6, x7].drop 5).take (Tryz.prog.cellsOf 64)) = xs[5]? := hf 5 _ rfl
  rw [hc5] at g5
  replace g5 : DataW.trod enc Tryz.prog w base spare held n 64 [x5] = some y5 := g5.trans e5
  obtain ⟨y6, e6⟩ := hx 6 (by decide)
  have hc6 : Tryz.prog.cellsOf 65 = 1 := by kernel_rfl
  have g6 : DataW.trod enc Tryz.prog w base spare held n 65 (([x0, x1, x2, x3, x4, x5, x6, x7].drop 6).take (Tryz.prog.cellsOf 65)) = xs[6]? := hf 6 _ rfl
  rw [hc6] at g6
  replace g6 : DataW.trod enc Tryz.prog w base spare held n 65 [x6] = some y6 := g6.trans e6
  obtain ⟨y7, e7⟩ := hx 7 (by decide)
  have hc7 : Tryz.prog.cellsOf 57 = 1 := by kernel_rfl
  have g7 : DataW.trod enc Tryz.prog w base spare held n 57 (([x0, x1, x2, x3, x4, x5, x6, x7].drop 7).take (Tryz.prog.cellsOf 57)) = xs[7]? := hf 7 _ rfl
  rw [hc7] at g7
  replace g7 : DataW.trod enc Tryz.prog w base spare held n 57 [x7] = some y7 := g7.trans e7
  obtain ⟨a0, h0, _⟩ := DataW.trod_bool Tryz.underlying4 g0
  simp only [List.cons.injEq, and_true] at h0
  subst h0
  obtain ⟨a1, h1, _, w1⟩ := DataW.trod_int Tryz.underlying3 g1
  simp only [List.cons.injEq, and_true] at h1
  subst h1
  obtain ⟨a2, h2, _, w2⟩ := DataW.trod_int Tryz.underlying3 g2
  simp only [List.cons.injEq, and_true] at h2
  subst h2
  obtain ⟨v3, l3, h3, u3, s3⟩ := open_rows1 (default : Nb) Nb.C (fun (e : Nb) => e.fit) (n := 4) (by decide) (fun _ => rfl) Tryz.underlying62 (by kernel_rfl) (fun fuel cs x hl h => Nb_cells hl h) g3
  simp only [List.cons.injEq, and_true] at h3
  subst h3
  obtain ⟨v4, l4, h4, u4, s4⟩ := open_rows1 (default : Pf) Pf.C (fun (e : Pf) => e.fit) (n := 2) (by decide) (fun _ => rfl) Tryz.underlying63 (by kernel_rfl) (fun fuel cs x hl h => Pf_cells hl h) g4
  simp only [List.cons.injEq, and_true] at h4
  subst h4
  obtain ⟨v5, l5, h5, u5, s5⟩ := open_rows1 (default : Ag) Ag.C (fun (e : Ag) => e.fit) (n := 3) (by decide) (fun _ => rfl) Tryz.underlying64 (by kernel_rfl) (fun fuel cs x hl h => Ag_cells hl h) g5
  simp only [List.cons.injEq, and_true] at h5
  subst h5
  obtain ⟨v6, l6, h6, u6, s6⟩ := open_rows1 (default : Cd) Cd.C (fun (e : Cd) => e.fit) (n := 5) (by decide) (fun _ => rfl) Tryz.underlying65 (by kernel_rfl) (fun fuel cs x hl h => Cd_cells hl h) g6
  simp only [List.cons.injEq, and_true] at h6
  subst h6
  obtain ⟨v7, l7, h7, u7, s7⟩ := open_rows1 (default : Rd) Rd.C (fun (e : Rd) => e.fit) (n := 5) (by decide) (fun _ => rfl) Tryz.underlying57 (by kernel_rfl) (fun fuel cs x hl h => Rd_cells hl h) g7
  simp only [List.cons.injEq, and_true] at h7
  subst h7
  exact ⟨a0, a1, a2, x3, l3, x4, l4, x5, l5, x6, l6, x7, l7, rfl, ⟨u3, s3⟩, ⟨u4, s4⟩, ⟨u5, s5⟩, ⟨u6, s6⟩, u7, s7⟩
set_option maxHeartbeats 1000000 in
theorem Rt_cells {fuel : Nat} {cs : List Value} {x : DataW H × List MemPlace} (hl : cs.length = 25) (h : DataW.trod enc Tryz.prog w base spare held fuel 69 cs = some x) : ∃ e : Rt, cs = e.C.toList ∧ (e.at w w.heap.size ∧ e.fit) := by
  obtain ⟨x0, x1, x2, x3, x4, x5, x6, x7, x8, x9, x10, x11, x12, x13, x14, x15, x16, x17, x18, x19, x20, x21, x22, x23, x24, rfl⟩ : ∃ x0 x1 x2 x3 x4 x5 x6 x7 x8 x9 x10 x11 x12 x13 x14 x15 x16 x17 x18 x19 x20 x21 x22 x23 x24, cs = [x0, x1, x2, x3, x4, x5, x6, x7, x8, x9, x10, x11, x12, x13, x14, x15, x16, x17, x18, x19, x20, x21, x22, x23, x24] := by
    match cs, hl with
    | [x0, x1, x2, x3, x4, x5, x6, x7, x8, x9, x10, x11, x12, x13, x14, x15, x16, x17, x18, x19, x20, x21, x22, x23, x24], _ => exact ⟨x0, x1, x2, x3, x4, x5, x6, x7, x8, x9, x10, x11, x12, x13, x14, x15, x16, x17, x18, x19, x20, x21, x22, x23, x24, rfl⟩
  obtain ⟨xs, n, _, _, _, hlen, hf⟩ := DataW.trod_struct Tryz.underlying69 h
  have hx : ∀ j, j < 11 → ∃ y, xs[j]? = some y := fun j hj => ⟨xs[j]'(by have : xs.length = 11 := hlen; omega), List.getElem?_eq_getElem _⟩
  obtain ⟨y0, e0⟩ := hx 0 (by decide)
  have hc0 : Tryz.prog.cellsOf 9 = 1 := by kernel_rfl
  have g0 : DataW.trod enc Tryz.prog w base spare held n 9 (([x0, x1, x2, x3, x4, x5, x6, x7, x8, x9, x10, x11, x12, x13, x14, x15, x16, x17, x18, x19, x20, x21, x22, x23, x24].drop 0).take (Tryz.prog.cellsOf 9)) = xs[0]? := hf 0 _ rfl
  rw [hc0] at g0
  replace g0 : DataW.trod enc Tryz.prog w base spare held n 9 [x0] = some y0 := g0.trans e0
  obtain ⟨y1, e1⟩ := hx 1 (by decide)
  have hc1 : Tryz.prog.cellsOf 3 = 1 := by kernel_rfl
  have g1 : DataW.trod enc Tryz.prog w base spare held n 3 (([x0, x1, x2, x3, x4, x5, x6, x7, x8, x9, x10, x11, x12, x13, x14, x15, x16, x17, x18, x19, x20, x21, x22, x23, x24].drop 1).take (Tryz.prog.cellsOf 3)) = xs[1]? := hf 1 _ rfl
  rw [hc1] at g1
  replace g1 : DataW.trod enc Tryz.prog w base spare held n 3 [x1] = some y1 := g1.trans e1
  obtain ⟨y2, e2⟩ := hx 2 (by decide)
  have hc2 : Tryz.prog.cellsOf 50 = 1 := by kernel_rfl
  have g2 : DataW.trod enc Tryz.prog w base spare held n 50 (([x0, x1, x2, x3, x4, x5, x6, x7, x8, x9, x10, x11, x12, x13, x14, x15, x16, x17, x18, x19, x20, x21, x22, x23, x24].drop 2).take (Tryz.prog.cellsOf 50)) = xs[2]? := hf 2 _ rfl
  rw [hc2] at g2
  replace g2 : DataW.trod enc Tryz.prog w base spare held n 50 [x2] = some y2 := g2.trans e2
  obtain ⟨y3, e3⟩ := hx 3 (by decide)
  have hc3 : Tryz.prog.cellsOf 51 = 1 := by kernel_rfl
  have g3 : DataW.trod enc Tryz.prog w base spare held n 51 (([x0, x1, x2, x3, x4, x5, x6, x7, x8, x9, x10, x11, x12, x13, x14, x15, x16, x17, x18, x19, x20, x21, x22, x23, x24].drop 3).take (Tryz.prog.cellsOf 51)) = xs[3]? := hf 3 _ rfl
  rw [hc3] at g3
  replace g3 : DataW.trod enc Tryz.prog w base spare held n 51 [x3] = some y3 := g3.trans e3
  obtain ⟨y4, e4⟩ := hx 4 (by decide)
  have hc4 : Tryz.prog.cellsOf 52 = 1 := by kernel_rfl
  have g4 : DataW.trod enc Tryz.prog w base spare held n 52 (([x0, x1, x2, x3, x4, x5, x6, x7, x8, x9, x10, x11, x12, x13, x14, x15, x16, x17, x18, x19, x20, x21, x22, x23, x24].drop 4).take (Tryz.prog.cellsOf 52)) = xs[4]? := hf 4 _ rfl
  rw [hc4] at g4
  replace g4 : DataW.trod enc Tryz.prog w base spare held n 52 [x4] = some y4 := g4.trans e4
  obtain ⟨y5, e5⟩ := hx 5 (by decide)
  have hc5 : Tryz.prog.cellsOf 53 = 1 := by kernel_rfl
  have g5 : DataW.trod enc Tryz.prog w base spare held n 53 (([x0, x1, x2, x3, x4, x5, x6, x7, x8, x9, x10, x11, x12, x13, x14, x15, x16, x17, x18, x19, x20, x21, x22, x23, x24].drop 5).take (Tryz.prog.cellsOf 53)) = xs[5]? := hf 5 _ rfl
  rw [hc5] at g5
  replace g5 : DataW.trod enc Tryz.prog w base spare held n 53 [x5] = some y5 := g5.trans e5
  obtain ⟨y6, e6⟩ := hx 6 (by decide)
  have hc6 : Tryz.prog.cellsOf 54 = 1 := by kernel_rfl
  have g6 : DataW.trod enc Tryz.prog w base spare held n 54 (([x0, x1, x2, x3, x4, x5, x6, x7, x8, x9, x10, x11, x12, x13, x14, x15, x16, x17, x18, x19, x20, x21, x22, x23, x24].drop 6).take (Tryz.prog.cellsOf 54)) = xs[6]? := hf 6 _ rfl
  rw [hc6] at g6
  replace g6 : DataW.trod enc Tryz.prog w base spare held n 54 [x6] = some y6 := g6.trans e6
  obtain ⟨y7, e7⟩ := hx 7 (by decide)
  have hc7 : Tryz.prog.cellsOf 55 = 1 := by kernel_rfl
  have g7 : DataW.trod enc Tryz.prog w base spare held n 55 (([x0, x1, x2, x3, x4, x5, x6, x7, x8, x9, x10, x11, x12, x13, x14, x15, x16, x17, x18, x19, x20, x21, x22, x23, x24].drop 7).take (Tryz.prog.cellsOf 55)) = xs[7]? := hf 7 _ rfl
  rw [hc7] at g7
  replace g7 : DataW.trod enc Tryz.prog w base spare held n 55 [x7] = some y7 := g7.trans e7
  obtain ⟨y8, e8⟩ := hx 8 (by decide)
  have hc8 : Tryz.prog.cellsOf 59 = 4 := by kernel_rfl
  have g8 : DataW.trod enc Tryz.prog w base spare held n 59 (([x0, x1, x2, x3, x4, x5, x6, x7, x8, x9, x10, x11, x12, x13, x14, x15, x16, x17, x18, x19, x20, x21, x22, x23, x24].drop 8).take (Tryz.prog.cellsOf 59)) = xs[8]? := hf 8 _ rfl
  rw [hc8] at g8
  replace g8 : DataW.trod enc Tryz.prog w base spare held n 59 [x8, x9, x10, x11] = some y8 := g8.trans e8
  obtain ⟨y9, e9⟩ := hx 9 (by decide)
  have hc9 : Tryz.prog.cellsOf 61 = 5 := by kernel_rfl
  have g9 : DataW.trod enc Tryz.prog w base spare held n 61 (([x0, x1, x2, x3, x4, x5, x6, x7, x8, x9, x10, x11, x12, x13, x14, x15, x16, x17, x18, x19, x20, x21, x22, x23, x24].drop 12).take (Tryz.prog.cellsOf 61)) = xs[9]? := hf 9 _ rfl
  rw [hc9] at g9
  replace g9 : DataW.trod enc Tryz.prog w base spare held n 61 [x12, x13, x14, x15, x16] = some y9 := g9.trans e9
  obtain ⟨y10, e10⟩ := hx 10 (by decide)
  have hc10 : Tryz.prog.cellsOf 67 = 8 := by kernel_rfl
  have g10 : DataW.trod enc Tryz.prog w base spare held n 67 (([x0, x1, x2, x3, x4, x5, x6, x7, x8, x9, x10, x11, x12, x13, x14, x15, x16, x17, x18, x19, x20, x21, x22, x23, x24].drop 17).take (Tryz.prog.cellsOf 67)) = xs[10]? := hf 10 _ rfl
  rw [hc10] at g10
  replace g10 : DataW.trod enc Tryz.prog w base spare held n 67 [x17, x18, x19, x20, x21, x22, x23, x24] = some y10 := g10.trans e10
  obtain ⟨n0, h0, _, w0⟩ := DataW.trod_string Tryz.underlying9 g0
  simp only [List.cons.injEq, and_true] at h0
  subst h0
  obtain ⟨n1, h1, _, w1⟩ := DataW.trod_int Tryz.underlying3 g1
  simp only [List.cons.injEq, and_true] at h1
  subst h1
  obtain ⟨v2, l2, h2, u2, s2⟩ := open_rows1 (default : If) If.C (fun (e : If) => e.fit) (n := 12) (by decide) (fun _ => rfl) Tryz.underlying50 (by kernel_rfl) (fun fuel cs x hl h => If_cells hl h) g2
  simp only [List.cons.injEq, and_true] at h2
  subst h2
  obtain ⟨v3, l3, h3, u3, s3⟩ := open_rows1 (default : PList) PList.C (fun (e : PList) => (e.at w w.heap.size ∧ e.fit)) (n := 2) (by decide) (fun _ => rfl) Tryz.underlying51 (by kernel_rfl) (fun fuel cs x hl h => PList_cells hl h) g3
  simp only [List.cons.injEq, and_true] at h3
  subst h3
  obtain ⟨v4, l4, h4, u4, s4⟩ := open_rows1 (default : RMap) RMap.C (fun (e : RMap) => (e.at w w.heap.size ∧ e.fit)) (n := 2) (by decide) (fun _ => rfl) Tryz.underlying52 (by kernel_rfl) (fun fuel cs x hl h => RMap_cells hl h) g4
  simp only [List.cons.injEq, and_true] at h4
  subst h4
  obtain ⟨v5, l5, h5, u5, s5⟩ := open_rows1 (default : AList) AList.C (fun (e : AList) => (e.at w w.heap.size ∧ e.fit)) (n := 2) (by decide) (fun _ => rfl) Tryz.underlying53 (by kernel_rfl) (fun fuel cs x hl h => AList_cells hl h) g5
  simp only [List.cons.injEq, and_true] at h5
  subst h5
  obtain ⟨v6, l6, h6, u6, s6⟩ := open_rows1 (default : Tr) Tr.C (fun (e : Tr) => e.fit) (n := 9) (by decide) (fun _ => rfl) Tryz.underlying54 (by kernel_rfl) (fun fuel cs x hl h => Tr_cells hl h) g6
  simp only [List.cons.injEq, and_true] at h6
  subst h6
  obtain ⟨v7, l7, h7, u7, s7⟩ := open_rows1 (default : Sr) Sr.C (fun (e : Sr) => e.fit) (n := 7) (by decide) (fun _ => rfl) Tryz.underlying55 (by kernel_rfl) (fun fuel cs x hl h => Sr_cells hl h) g7
  simp only [List.cons.injEq, and_true] at h7
  subst h7
  obtain ⟨p0, p1, pv2, p2, pv3, p3, h8, u8⟩ := ls_cells rfl g8
  simp only [List.cons.injEq, and_true] at h8
  obtain ⟨rfl, rfl, rfl, rfl⟩ := h8
  obtain ⟨q0, q1, q2, q3, qv4, q4, h9, u9⟩ := dv_cells rfl g9
  simp only [List.cons.injEq, and_true] at h9
  obtain ⟨rfl, rfl, rfl, rfl, rfl⟩ := h9
  obtain ⟨r0, r1, r2, rv3, r3, rv4, r4, rv5, r5, rv6, r6, rv7, r7, h10, u10⟩ := pv_cells rfl g10
  simp only [List.cons.injEq, and_true] at h10
  obtain ⟨rfl, rfl, rfl, rfl, rfl, rfl, rfl, rfl⟩ := h10
  obtain ⟨⟨p5, p6⟩, p7, p8⟩ := u8
  obtain ⟨q5, q6⟩ := u9
  obtain ⟨⟨r8, r9⟩, ⟨r10, r11⟩, ⟨r12, r13⟩, ⟨r14, r15⟩, r16, r17⟩ := u10
  exact ⟨⟨bytes n0, n1, x2, x3, x4, x5, x6, x7, p0, p1, x10, x11, q0, q1, bytes q2, bytes q3, x16, r0, r1, r2, x20, x21, x22, x23, x24, l2, l3, l4, l5, l6, l7, p2, p3, q4, r3, r4, r5, r6, r7⟩, by simp [Rt.C, strV, str_bytes],
    ⟨u2, u3, fun x hx => (s3 x hx).1, u4, fun x hx => (s4 x hx).1, u5, fun x hx => (s5 x hx).1, u6, u7, p5, p7, q5, r8, r10, r12, r14, r16⟩, ⟨s2, fun x hx => (s3 x hx).2, fun x hx => (s4 x hx).2, fun x hx => (s5 x hx).2, s6, s7, p6, p8, q6, r9, r11, r13, r15, r17⟩⟩
set_option maxHeartbeats 1000000 in
theorem network_cells {fuel : Nat} {cs : List Value} {x : DataW H × List MemPlace} (hl : cs.length = 1) (h : DataW.trod enc Tryz.prog w base spare held fuel 24 cs = some x) : ∃ (v : Value) (rs : List Rt), cs = [v] ∧ NetAt w w.heap.size v rs := by
  obtain ⟨x0, rfl⟩ : ∃ x0, cs = [x0] := by
    match cs, hl with
    | [x0], _ => exact ⟨x0, rfl⟩
  obtain ⟨xs, n, _, _, _, hlen, hf⟩ := DataW.trod_struct Tryz.underlying24 h
  have hx : ∀ j, j < 1 → ∃ y, xs[j]? = some y := fun j hj => ⟨xs[j]'(by have : xs.length = 1 := hlen; omega), List.getElem?_eq_getElem _⟩
  obtain ⟨y0, e0⟩ := hx 0 (by decide)
  have hc0 : Tryz.prog.cellsOf 22 = 1 := by kernel_rfl
  have g0 : DataW.trod enc Tryz.prog w base spare held n 22 (([x0].drop 0).take (Tryz.prog.cellsOf 22)) = xs[0]? := hf 0 _ rfl
  rw [hc0] at g0
  replace g0 : DataW.trod enc Tryz.prog w base spare held n 22 [x0] = some y0 := g0.trans e0
  obtain ⟨v, es, h0, u0, s0⟩ := open_rows1 (default : Rt) Rt.C (fun (e : Rt) => (e.at w w.heap.size ∧ e.fit)) (n := 25) (by decide) (fun _ => rfl) Tryz.underlying22 (by kernel_rfl) (fun fuel cs x hl h => Rt_cells hl h) g0
  simp only [List.cons.injEq, and_true] at h0
  subst h0
  exact ⟨x0, es, rfl, u0, fun r hr => (s0 r hr).1, fun r hr => (s0 r hr).2⟩
end
end Go.Proofs.YtnhemjdmleilcaaGreatDoor
