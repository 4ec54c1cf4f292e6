/- The walks of the parser's methods place, ports, kind, and of the reader's place. Conditions: as in QryC. -/
import Derived.Test.YtnhemjdmleilcaaDoorQryC
namespace Go.Proofs.YtnhemjdmleilcaaDoor
open Go.RowKit

set_option maxHeartbeats 1000000 in
theorem pplace_any (b G : Nat) (p : Ps) (s : ByteArray) (w : World) (h : PSt 71 b G p w) :
    Calls Tryd.prog 73 #[.pointer (some ⟨b, 0, none⟩), .string s] w (PPost 71 b G (.tuple #[strV (plcR (expS (bytes s) p)), strV (plcI (expS (bytes s) p))]) (plcS (expS (bytes s) p)) w) := by
  have H := Lib.hid h
  clear h
  have HA := Lib.hid (fun p w h => accept_any b G p ⟨#[105, 102, 97, 99, 101]⟩ w h)
  have HN := Lib.hid (fun p w h => next_any b G p w h)
  unfold strV at HN
  cases hi : accB wIface (nxtS (expS (bytes s) p)) with
  | true =>
    have hi' : Hid (accB (bytes ⟨#[105, 102, 97, 99, 101]⟩) (nxtS (expS (bytes s) p)) = true) := Lib.hid hi
    have E : Hid (plcI (expS (bytes s) p) = nxtV (accS wIface (nxtS (expS (bytes s) p))) ∧ plcS (expS (bytes s) p) = nxtS (accS wIface (nxtS (expS (bytes s) p)))) := Lib.hid (by unfold plcI plcS; rw [hi]; exact ⟨rfl, rfl⟩)
    clear hi
    go_enter Tryd.func73, Tryd.ntmps73
    go_wp2_with fail
    refine (expect_any b G p s w H.out).mono ?_
    rintro e w1 ⟨rfl, g1, k1⟩
    go_wp2_with fail
    refine (HN.out _ _ g1).mono ?_
    rintro e w2 ⟨rfl, g2, k2⟩
    go_wp2_with fail
    refine (HA.out _ _ g2).mono ?_
    rintro e w3 ⟨rfl, g3, k3⟩
    rw [hi'.out]
    go_wp2_with fail
    refine (HN.out _ _ g3).mono ?_
    rintro e w4 ⟨rfl, g4, k4⟩
    go_wp2_with fail
    go_ret2
    exact ⟨by rw [E.out.1]; rfl, by rw [E.out.2]; exact g4, ((k1.trans k2).trans k3).trans k4⟩
  | false =>
    have hi' : Hid (accB (bytes ⟨#[105, 102, 97, 99, 101]⟩) (nxtS (expS (bytes s) p)) = false) := Lib.hid hi
    have E : Hid (plcI (expS (bytes s) p) = [] ∧ plcS (expS (bytes s) p) = accS wIface (nxtS (expS (bytes s) p))) := Lib.hid (by unfold plcI plcS accS; rw [hi]; exact ⟨rfl, rfl⟩)
    clear hi
    go_enter Tryd.func73, Tryd.ntmps73
    go_wp2_with fail
    refine (expect_any b G p s w H.out).mono ?_
    rintro e w1 ⟨rfl, g1, k1⟩
    go_wp2_with fail
    refine (HN.out _ _ g1).mono ?_
    rintro e w2 ⟨rfl, g2, k2⟩
    go_wp2_with fail
    refine (HA.out _ _ g2).mono ?_
    rintro e w3 ⟨rfl, g3, k3⟩
    rw [hi'.out]
    go_wp2_with fail
    go_ret2
    exact ⟨by rw [E.out.1]; rfl, by rw [E.out.2]; exact g3, (k1.trans k2).trans k3⟩

set_option maxHeartbeats 1000000 in
theorem rdplace_any (b G : Nat) (p : Ps) (w : World) (h : PSt 75 b G p w) :
    Calls Tryd.prog 49 #[.pointer (some ⟨b, 0, none⟩)] w (PPost 75 b G (.tuple #[strV (plcR p), strV (plcI p)]) (plcS p) w) := by
  have H := Lib.hid h
  clear h
  have HA := Lib.hid (fun p w h => ris_any b G p ⟨#[105, 102, 97, 99, 101]⟩ w h)
  have HN := Lib.hid (fun p w h => rtake_any b G p w h)
  unfold strV at HN
  cases hi : accB wIface (nxtS p) with
  | true =>
    have hi' : Hid (accB (bytes ⟨#[105, 102, 97, 99, 101]⟩) (nxtS p) = true) := Lib.hid hi
    have E : Hid (plcI p = nxtV (accS wIface (nxtS p)) ∧ plcS p = nxtS (accS wIface (nxtS p))) := Lib.hid (by unfold plcI plcS; rw [hi]; exact ⟨rfl, rfl⟩)
    clear hi
    go_enter Tryd.func49, Tryd.ntmps49
    go_wp2_with fail
    have g1 := H.out
    have k1 := World.grownBy.refl w (some b)
    refine (HN.out _ _ g1).mono ?_
    rintro e w2 ⟨rfl, g2, k2⟩
    go_wp2_with fail
    refine (HA.out _ _ g2).mono ?_
    rintro e w3 ⟨rfl, g3, k3⟩
    rw [hi'.out]
    go_wp2_with fail
    refine (HN.out _ _ g3).mono ?_
    rintro e w4 ⟨rfl, g4, k4⟩
    go_wp2_with fail
    go_ret2
    exact ⟨by rw [E.out.1]; rfl, by rw [E.out.2]; exact g4, ((k1.trans k2).trans k3).trans k4⟩
  | false =>
    have hi' : Hid (accB (bytes ⟨#[105, 102, 97, 99, 101]⟩) (nxtS p) = false) := Lib.hid hi
    have E : Hid (plcI p = [] ∧ plcS p = accS wIface (nxtS p)) := Lib.hid (by unfold plcI plcS accS; rw [hi]; exact ⟨rfl, rfl⟩)
    clear hi
    go_enter Tryd.func49, Tryd.ntmps49
    go_wp2_with fail
    have g1 := H.out
    have k1 := World.grownBy.refl w (some b)
    refine (HN.out _ _ g1).mono ?_
    rintro e w2 ⟨rfl, g2, k2⟩
    go_wp2_with fail
    refine (HA.out _ _ g2).mono ?_
    rintro e w3 ⟨rfl, g3, k3⟩
    rw [hi'.out]
    go_wp2_with fail
    go_ret2
    exact ⟨by rw [E.out.1]; rfl, by rw [E.out.2]; exact g3, (k1.trans k2).trans k3⟩

theorem far_on {w1 w2 : World} {g b : Nat} {x y : Value} (h : w1.grownBy w2 (some b)) (hz : g + 1 ≤ w1.heap.size) (hne : g ≠ b) (c0 : w1.cell? ⟨g, 0, none⟩ = some x) (c1 : w1.cell? ⟨g, 1, none⟩ = some y) (f : ∀ j, w1.frozen? ⟨g, j, none⟩ = false) :
    g + 1 ≤ w2.heap.size ∧ w2.cell? ⟨g, 0, none⟩ = some x ∧ w2.cell? ⟨g, 1, none⟩ = some y ∧ ∀ j, w2.frozen? ⟨g, j, none⟩ = false := by
  have hn : some g ≠ some b := fun e => hne (by injection e)
  exact ⟨Nat.le_trans hz h.size, (h.cell_far ⟨g, 0, none⟩ hz hn).trans c0, (h.cell_far ⟨g, 1, none⟩ hz hn).trans c1, fun j => (h.frozen_far ⟨g, j, none⟩ hz hn).trans (f j)⟩
theorem box_end {T : TypeId} {b G : Nat} {p : Ps} {w w1 : World} {o : Obj} (h1 : PSt T b G p w1) (h2 : (w.alloc o).grownBy w1 (some b)) (hG : G ≤ w.heap.size) (x y : Value) :
    PSt T b G p ((w1.setCell ⟨w.heap.size, 0, none⟩ x).setCell ⟨w.heap.size, 1, none⟩ y) ∧ w.grownBy ((w1.setCell ⟨w.heap.size, 0, none⟩ x).setCell ⟨w.heap.size, 1, none⟩ y) (some b) := by
  have hset := ((Below.refl w.heap.size w1).setCell (p := ⟨w.heap.size, 0, none⟩) (Nat.le_refl _) x).setCell (p := ⟨w.heap.size, 1, none⟩) (Nat.le_refl _) y
  exact ⟨h1.keep (hset.mono hG), grown_tail ((World.grownBy_alloc w o _).trans h2) hset⟩
/-- A range's value. -/
def RV (lo hi : Int) : Value := .agg #[.int .i64 lo, .int .i64 hi]

set_option maxHeartbeats 1000000 in
theorem pports_any (b G : Nat) (p : Ps) (s : ByteArray) (w : World) (h : PSt 71 b G p w) :
    Calls Tryd.prog 79 #[.pointer (some ⟨b, 0, none⟩), .string s] w (PPost 71 b G (RV (portV (bytes s) p).1 (portV (bytes s) p).2) (portS (bytes s) p) w) := by
  have hbG := h.1
  have hGw := h.2.1
  have H := Lib.hid h
  clear h
  have HA := Lib.hid (fun w h => accept_any b G p s w h)
  have HN := Lib.hid (fun p w h => pnumber_any b G p w h)
  cases hi : accB (bytes s) p with
  | true =>
    have E : Hid (portV (bytes s) p = (numVP (accS (bytes s) p), numVP (numS (accS (bytes s) p))) ∧ portS (bytes s) p = numS (numS (accS (bytes s) p))) := Lib.hid (by unfold portV portS; rw [hi]; exact ⟨rfl, rfl⟩)
    rw [hi] at HA
    clear hi
    go_enter Tryd.func79, Tryd.ntmps79
    go_wp2_with fail
    refine (HA.out _ (H.out.keep ((Below.refl _ w).alloc hGw _))).mono ?_
    rintro e w1 ⟨rfl, g1, k1⟩
    obtain ⟨hz1, c0, c1, f0⟩ := far_box k1 (by omega)
    have G1 := Lib.hid g1
    have K1 := Lib.hid k1
    clear g1 k1
    go_wp2_with fail
    refine (HN.out _ _ G1.out).mono ?_
    rintro e w2 ⟨rfl, g2, k2⟩
    obtain ⟨hz2, d0, d1, e0⟩ := far_on k2 hz1 (by omega) c0 c1 f0
    have G2 := Lib.hid g2
    have K2 := Lib.hid k2
    clear g2 k2 c0 c1 f0
    go_wp2_with fail
    refine (HN.out _ _ G2.out).mono ?_
    rintro e w3 ⟨rfl, g3, k3⟩
    obtain ⟨hz3, c0, c1, f0⟩ := far_on k3 hz2 (by omega) d0 d1 e0
    have G3 := Lib.hid g3
    have K3 := Lib.hid k3
    clear g3 k3 d0 d1 e0
    go_wp2_with fail
    refine bodyPost_ret (v := RV _ _) (by simp [results, Tryd.results79, go_sem, RV, *]; exact ⟨rfl, rfl⟩) rfl ⟨by rw [E.out.1], ?_⟩
    rw [E.out.2]
    exact box_end G3.out ((K1.out.trans K2.out).trans K3.out) hGw _ _
  | false =>
    have E : Hid (portV (bytes s) p = (0, 65535) ∧ portS (bytes s) p = accS (bytes s) p) := Lib.hid (by unfold portV portS accS; rw [hi]; exact ⟨rfl, rfl⟩)
    rw [hi] at HA
    clear hi
    go_enter Tryd.func79, Tryd.ntmps79
    go_wp2_with fail
    refine (HA.out _ (H.out.keep ((Below.refl _ w).alloc hGw _))).mono ?_
    rintro e w1 ⟨rfl, g1, k1⟩
    obtain ⟨hz1, c0, c1, f0⟩ := far_box k1 (by omega)
    have G1 := Lib.hid g1
    have K1 := Lib.hid k1
    clear g1 k1
    go_wp2_with fail
    refine bodyPost_ret (v := RV 0 65535) (by simp [results, Tryd.results79, go_sem, RV, *]) rfl ⟨by rw [E.out.1], ?_⟩
    rw [E.out.2]
    exact box_end G1.out K1.out hGw _ _

theorem kind_cases (s : List UInt8) : s = [100, 101, 108, 105, 118, 101, 114] ∨ s = [105, 115, 111, 108, 97, 116, 101] ∨ s = [116, 114, 97, 118, 101, 114, 115, 101] ∨ s = [108, 111, 111, 112, 108, 101, 115, 115] ∨ s = [104, 111, 108, 101, 108, 101, 115, 115] ∨ s = [101, 113, 117, 97, 116, 101] ∨ (s ≠ [100, 101, 108, 105, 118, 101, 114] ∧ s ≠ [105, 115, 111, 108, 97, 116, 101] ∧ s ≠ [116, 114, 97, 118, 101, 114, 115, 101] ∧ s ≠ [108, 111, 111, 112, 108, 101, 115, 115] ∧ s ≠ [104, 111, 108, 101, 108, 101, 115, 115] ∧ s ≠ [101, 113, 117, 97, 116, 101]) := by
  by_cases h0 : s = [100, 101, 108, 105, 118, 101, 114]
  · simp only [h0, true_or]
  by_cases h1 : s = [105, 115, 111, 108, 97, 116, 101]
  · simp only [h1, true_or, or_true]
  by_cases h2 : s = [116, 114, 97, 118, 101, 114, 115, 101]
  · simp only [h2, true_or, or_true]
  by_cases h3 : s = [108, 111, 111, 112, 108, 101, 115, 115]
  · simp only [h3, true_or, or_true]
  by_cases h4 : s = [104, 111, 108, 101, 108, 101, 115, 115]
  · simp only [h4, true_or, or_true]
  by_cases h5 : s = [101, 113, 117, 97, 116, 101]
  · simp only [h5, true_or, or_true]
  exact Or.inr (Or.inr (Or.inr (Or.inr (Or.inr (Or.inr ⟨h0, h1, h2, h3, h4, h5⟩)))))
theorem Tryd.runW0 (w : World) : Sem.run Tryd.prog (Instr.index 84 (.agg #[.string ⟨#[100, 101, 108, 105, 118, 101, 114]⟩, .string ⟨#[105, 115, 111, 108, 97, 116, 101]⟩, .string ⟨#[116, 114, 97, 118, 101, 114, 115, 101]⟩, .string ⟨#[108, 111, 111, 112, 108, 101, 115, 115]⟩, .string ⟨#[104, 111, 108, 101, 108, 101, 115, 115]⟩, .string ⟨#[101, 113, 117, 97, 116, 101]⟩]) (.int .i64 0)) w = .ok (.string ⟨#[100, 101, 108, 105, 118, 101, 114]⟩) w := by kernel_rfl
theorem Tryd.runW1 (w : World) : Sem.run Tryd.prog (Instr.index 84 (.agg #[.string ⟨#[100, 101, 108, 105, 118, 101, 114]⟩, .string ⟨#[105, 115, 111, 108, 97, 116, 101]⟩, .string ⟨#[116, 114, 97, 118, 101, 114, 115, 101]⟩, .string ⟨#[108, 111, 111, 112, 108, 101, 115, 115]⟩, .string ⟨#[104, 111, 108, 101, 108, 101, 115, 115]⟩, .string ⟨#[101, 113, 117, 97, 116, 101]⟩]) (.int .i64 1)) w = .ok (.string ⟨#[105, 115, 111, 108, 97, 116, 101]⟩) w := by kernel_rfl
theorem Tryd.runW2 (w : World) : Sem.run Tryd.prog (Instr.index 84 (.agg #[.string ⟨#[100, 101, 108, 105, 118, 101, 114]⟩, .string ⟨#[105, 115, 111, 108, 97, 116, 101]⟩, .string ⟨#[116, 114, 97, 118, 101, 114, 115, 101]⟩, .string ⟨#[108, 111, 111, 112, 108, 101, 115, 115]⟩, .string ⟨#[104, 111, 108, 101, 108, 101, 115, 115]⟩, .string ⟨#[101, 113, 117, 97, 116, 101]⟩]) (.int .i64 2)) w = .ok (.string ⟨#[116, 114, 97, 118, 101, 114, 115, 101]⟩) w := by kernel_rfl
theorem Tryd.runW3 (w : World) : Sem.run Tryd.prog (Instr.index 84 (.agg #[.string ⟨#[100, 101, 108, 105, 118, 101, 114]⟩, .string ⟨#[105, 115, 111, 108, 97, 116, 101]⟩, .string ⟨#[116, 114, 97, 118, 101, 114, 115, 101]⟩, .string ⟨#[108, 111, 111, 112, 108, 101, 115, 115]⟩, .string ⟨#[104, 111, 108, 101, 108, 101, 115, 115]⟩, .string ⟨#[101, 113, 117, 97, 116, 101]⟩]) (.int .i64 3)) w = .ok (.string ⟨#[108, 111, 111, 112, 108, 101, 115, 115]⟩) w := by kernel_rfl
theorem Tryd.runW4 (w : World) : Sem.run Tryd.prog (Instr.index 84 (.agg #[.string ⟨#[100, 101, 108, 105, 118, 101, 114]⟩, .string ⟨#[105, 115, 111, 108, 97, 116, 101]⟩, .string ⟨#[116, 114, 97, 118, 101, 114, 115, 101]⟩, .string ⟨#[108, 111, 111, 112, 108, 101, 115, 115]⟩, .string ⟨#[104, 111, 108, 101, 108, 101, 115, 115]⟩, .string ⟨#[101, 113, 117, 97, 116, 101]⟩]) (.int .i64 4)) w = .ok (.string ⟨#[104, 111, 108, 101, 108, 101, 115, 115]⟩) w := by kernel_rfl
theorem Tryd.runW5 (w : World) : Sem.run Tryd.prog (Instr.index 84 (.agg #[.string ⟨#[100, 101, 108, 105, 118, 101, 114]⟩, .string ⟨#[105, 115, 111, 108, 97, 116, 101]⟩, .string ⟨#[116, 114, 97, 118, 101, 114, 115, 101]⟩, .string ⟨#[108, 111, 111, 112, 108, 101, 115, 115]⟩, .string ⟨#[104, 111, 108, 101, 108, 101, 115, 115]⟩, .string ⟨#[101, 113, 117, 97, 116, 101]⟩]) (.int .i64 5)) w = .ok (.string ⟨#[101, 113, 117, 97, 116, 101]⟩) w := by kernel_rfl
set_option maxRecDepth 100000 in
set_option maxHeartbeats 2000000 in
theorem pkind_any (b G B : Nat) (p : Ps) (w : World) (h : PSt 71 b G p w) (he : EnvB B w) (hB : B ≤ b) :
    Calls Tryd.prog 72 #[.pointer (some ⟨b, 0, none⟩)] w (PPost 71 b G (.int .i64 (kindOf (nxtV p))) (stKind p).2 w) := by
  have hbw : B ≤ w.heap.size := by have := h.1; have := h.2.1; omega
  have HN := Lib.hid (next_any b G p w h)
  unfold strV at HN
  clear h
  go_enter Tryd.func72, Tryd.ntmps72
  go_wp2_with fail
  refine HN.out.mono ?_
  rintro e w1 ⟨rfl, g1, k1⟩
  obtain ⟨-, -, -, -, hw⟩ := he.keep (below_of_grown k1 hB hbw)
  have c0 : w1.cell? ⟨0, 0, none⟩ = some (.string ⟨#[100, 101, 108, 105, 118, 101, 114]⟩) := hw 0 _ rfl
  have c1 : w1.cell? ⟨0, 1, none⟩ = some (.string ⟨#[105, 115, 111, 108, 97, 116, 101]⟩) := hw 1 _ rfl
  have c2 : w1.cell? ⟨0, 2, none⟩ = some (.string ⟨#[116, 114, 97, 118, 101, 114, 115, 101]⟩) := hw 2 _ rfl
  have c3 : w1.cell? ⟨0, 3, none⟩ = some (.string ⟨#[108, 111, 111, 112, 108, 101, 115, 115]⟩) := hw 3 _ rfl
  have c4 : w1.cell? ⟨0, 4, none⟩ = some (.string ⟨#[104, 111, 108, 101, 108, 101, 115, 115]⟩) := hw 4 _ rfl
  have c5 : w1.cell? ⟨0, 5, none⟩ = some (.string ⟨#[101, 113, 117, 97, 116, 101]⟩) := hw 5 _ rfl
  clear hw
  have r0 := Tryd.runW0 w1
  have r1 := Tryd.runW1 w1
  have r2 := Tryd.runW2 w1
  have r3 := Tryd.runW3 w1
  have r4 := Tryd.runW4 w1
  have r5 := Tryd.runW5 w1
  have H1 := Lib.hid g1
  have K1 := Lib.hid k1
  have HF := Lib.hid g1.failed
  have q1 := g1.bad1
  have q2 := g1.frz 1
  clear g1 k1 he
  generalize hs : nxtV p = s
  replace hs := Lib.hid hs
  rcases kind_cases s with rfl | rfl | rfl | rfl | rfl | rfl | ⟨n0, n1, n2, n3, n4, n5⟩
  · have t := toList_str [100, 101, 108, 105, 118, 101, 114]
    go_wp2_with fail
    refine wp_loop_rounds 1 ?_
    iterate 1 (rw [rounds_succ]; go_wp2_with fail)
    go_ret
    exact ⟨by rw [hs.out]; rfl, by unfold stKind; rw [hs.out, if_neg (by decide)]; exact H1.out, K1.out⟩
  · have t := toList_str [105, 115, 111, 108, 97, 116, 101]
    go_wp2_with fail
    refine wp_loop_rounds 2 ?_
    iterate 2 (rw [rounds_succ]; go_wp2_with fail)
    go_ret
    exact ⟨by rw [hs.out]; rfl, by unfold stKind; rw [hs.out, if_neg (by decide)]; exact H1.out, K1.out⟩
  · have t := toList_str [116, 114, 97, 118, 101, 114, 115, 101]
    go_wp2_with fail
    refine wp_loop_rounds 3 ?_
    iterate 3 (rw [rounds_succ]; go_wp2_with fail)
    go_ret
    exact ⟨by rw [hs.out]; rfl, by unfold stKind; rw [hs.out, if_neg (by decide)]; exact H1.out, K1.out⟩
  · have t := toList_str [108, 111, 111, 112, 108, 101, 115, 115]
    go_wp2_with fail
    refine wp_loop_rounds 4 ?_
    iterate 4 (rw [rounds_succ]; go_wp2_with fail)
    go_ret
    exact ⟨by rw [hs.out]; rfl, by unfold stKind; rw [hs.out, if_neg (by decide)]; exact H1.out, K1.out⟩
  · have t := toList_str [104, 111, 108, 101, 108, 101, 115, 115]
    go_wp2_with fail
    refine wp_loop_rounds 5 ?_
    iterate 5 (rw [rounds_succ]; go_wp2_with fail)
    go_ret
    exact ⟨by rw [hs.out]; rfl, by unfold stKind; rw [hs.out, if_neg (by decide)]; exact H1.out, K1.out⟩
  · have t := toList_str [101, 113, 117, 97, 116, 101]
    go_wp2_with fail
    refine wp_loop_rounds 6 ?_
    iterate 6 (rw [rounds_succ]; go_wp2_with fail)
    go_ret
    exact ⟨by rw [hs.out]; rfl, by unfold stKind; rw [hs.out, if_neg (by decide)]; exact H1.out, K1.out⟩
  · have m0 : (s == [100, 101, 108, 105, 118, 101, 114]) = false := beq_eq_false_iff_ne.2 n0
    have m1 : (s == [105, 115, 111, 108, 97, 116, 101]) = false := beq_eq_false_iff_ne.2 n1
    have m2 : (s == [116, 114, 97, 118, 101, 114, 115, 101]) = false := beq_eq_false_iff_ne.2 n2
    have m3 : (s == [108, 111, 111, 112, 108, 101, 115, 115]) = false := beq_eq_false_iff_ne.2 n3
    have m4 : (s == [104, 111, 108, 101, 108, 101, 115, 115]) = false := beq_eq_false_iff_ne.2 n4
    have m5 : (s == [101, 113, 117, 97, 116, 101]) = false := beq_eq_false_iff_ne.2 n5
    have t := toList_str s
    have E : Hid (kindOf s = 0) := Lib.hid (by simp [kindOf, kindGo, kindWords, n0, n1, n2, n3, n4, n5])
    clear n0 n1 n2 n3 n4 n5
    go_wp2_with fail
    refine wp_loop_rounds 7 ?_
    iterate 7 (rw [rounds_succ]; go_wp2_with fail)
    go_ret
    exact ⟨by rw [hs.out, E.out]; rfl, by unfold stKind; rw [hs.out, if_pos E.out]; exact HF.out.1, K1.out.trans HF.out.2⟩
end Go.Proofs.YtnhemjdmleilcaaDoor
