/- The walks of short and fit of netverifylaw42. No condition. -/
import Derived.Test.YtpclacofcfbpjaaDoorEditR
import Derived.IntWalk
import Derived.Deep.Cut
namespace Go.Proofs.YtpclacofcfbpjaaDoor
open Go.RowKit

def shortT (l : List UInt8) : Bool := decide (l.length ≤ 1500) || decide (65536 < l.length)
def shortB (ts : List (List UInt8)) : Bool := ts.all shortT && decide (ts.length ≤ 6)
theorem short_step {ts : List (List UInt8)} {k : Nat} (h : k < ts.length) : (ts.drop k).all shortT = (shortT ts[k] && (ts.drop (k + 1)).all shortT) := by
  rw [list_step ts k h]; rfl

set_option maxHeartbeats 400000 in
theorem short_any (A : Option Addr) (c Z : Nat) (ts : List (List UInt8)) (w : World) (hs : Slc w Z 1 (.slice A ts.length c) ts.length (ts.map strV)) :
    Calls Tryd.prog 11 #[.slice A ts.length c] w fun e w' => e = .returned (.bool (shortB ts)) ∧ w = w' := by
  have hb1 := slc_len hs
  have HS := Lib.hid hs
  clear hs
  go_enter Tryd.func11, Tryd.ntmps11
  go_wp2_with fail
  go_loop [2, 3] (fun _ ix => ∃ q : Nat, q ≤ ts.length ∧ ix = .int .i64 q ∧ Hid (ts.all shortT = (ts.drop q).all shortT)) (fun _ ix => ts.length - (intOf ix).toNat)
  case atStart => exact ⟨0, by omega, rfl, Lib.hid (by rw [List.drop_zero])⟩
  case round =>
    obtain ⟨q, hq, rfl, H⟩ := hrel
    by_cases hlt : q < ts.length
    · obtain ⟨g, o, eA, _, c1⟩ := slc_at HS.out rfl hlt
      have E := Lib.hid (short_step hlt)
      have hx := str_size ts[q]
      generalize ts[q] = x at c1 E hx
      unfold strV at c1
      subst eA
      by_cases h1 : 1500 < (str x).size
      · have e1 : decide ((1500 : Int) < (str x).size) = true := decide_eq_true (by omega)
        by_cases h2 : (str x).size ≤ 65536
        · have e2 : decide (((str x).size : Int) ≤ 65536) = true := decide_eq_true (by omega)
          have HN : Hid (shortB ts = false) := Lib.hid (by unfold shortB; rw [H.out, E.out]; unfold shortT; rw [decide_eq_false (by omega), decide_eq_false (by omega)]; rfl)
          clear hx H E
          go_wp2_with fail
          go_ret
          exact ⟨ret_bool HN.out.symm, rfl⟩
        · have e2 : decide (((str x).size : Int) ≤ 65536) = false := decide_eq_false (by omega)
          have HN : Hid (shortT x = true) := Lib.hid (by unfold shortT; rw [decide_eq_true (show 65536 < x.length by omega)]; simp)
          clear hx
          go_wp2_with fail
          go_round
          case rel => exact ⟨q + 1, by omega, by go_num, Lib.hid (by rw [H.out, E.out, HN.out]; rfl)⟩
          case measure => simp [intOf]; omega
      · have e1 : decide ((1500 : Int) < (str x).size) = false := decide_eq_false (by omega)
        have HN : Hid (shortT x = true) := Lib.hid (by unfold shortT; rw [decide_eq_true (show x.length ≤ 1500 by omega)]; simp)
        clear hx
        go_wp2_with fail
        go_round
        case rel => exact ⟨q + 1, by omega, by go_num, Lib.hid (by rw [H.out, E.out, HN.out]; rfl)⟩
        case measure => simp [intOf]; omega
    · have HN : Hid (shortB ts = decide (ts.length ≤ 6)) := Lib.hid (by unfold shortB; rw [H.out, List.drop_eq_nil_of_le (by omega)]; rfl)
      clear H
      go_wp2_with fail
      go_ret
      exact ⟨ret_bool (by rw [HN.out]; (try simp) <;> omega), rfl⟩

theorem fit_num (x : Int) (n : Nat) (h0 : 0 < n) (hn : n ≤ 1000000) : ∃ m : Nat, m < n ∧ wrap64 ((IntKind.u64.wrap x).tmod n) = (m : Int) := by
  have hu : 0 ≤ IntKind.u64.wrap x := by
    simp [IntKind.wrap, IntKind.signed, IntKind.bits]; omega
  have h1 := Int.emod_nonneg (IntKind.u64.wrap x) (show (n : Int) ≠ 0 by omega)
  have h2 := Int.emod_lt_of_pos (IntKind.u64.wrap x) (show (0 : Int) < n by omega)
  refine ⟨(IntKind.u64.wrap x % n).toNat, by omega, ?_⟩
  rw [Int.tmod_eq_emod_of_nonneg hu, IntWalk.wrap64_in _ ⟨by omega, by omega⟩]
  omega
theorem bcell {W w1 : World} (hb : Below W.heap.size W w1) : (∀ b o, b < W.heap.size → w1.cell? ⟨b, o, none⟩ = W.cell? ⟨b, o, none⟩) ∧ (∀ b o, b < W.heap.size → w1.frozen? ⟨b, o, none⟩ = W.frozen? ⟨b, o, none⟩) :=
  ⟨fun b o h => hb.cell (p := ⟨b, o, none⟩) h, fun b o h => hb.frozen (p := ⟨b, o, none⟩) h⟩
/-- What fit makes of an edit. -/
def FitOk (ts : List (List UInt8)) (x y : Ed) : Prop := 0 ≤ y.cfg ∧ y.cfg < ts.length ∧ (y.kind = 1 ∨ y.kind = 2 ∨ y.kind = 3) ∧ y.text.length ≤ x.text.length
def wfI (n : Int) : Prop := -9223372036854775808 ≤ n ∧ n ≤ 9223372036854775807

set_option maxHeartbeats 1000000 in
theorem fit_any (A : Option Addr) (c : Nat) (ts : List (List UInt8)) (x : Ed) (w : World) (hs : Slc w w.heap.size 1 (.slice A ts.length c) ts.length (ts.map strV)) (h0 : 0 < ts.length) (hl : ts.length ≤ 1000000) (hw : wfI x.cfg ∧ wfI x.line ∧ wfI x.kind) :
    Calls Tryd.prog 12 #[.slice A ts.length c, edV x] w fun e w' => ∃ y, e = .returned (edV y) ∧ FitOk ts x y ∧ Below w.heap.size w w' := by
  obtain ⟨xc, xl, xk, xt⟩ := x
  unfold edV strV
  simp only
  obtain ⟨⟨c1, c2⟩, ⟨l1, l2⟩, ⟨k1, k2⟩⟩ := hw
  obtain ⟨m, hm, hC⟩ := fit_num xc ts.length h0 hl
  obtain ⟨m3, hm3, hK⟩ := fit_num xk 3 (by decide) (by decide)
  have hK2 : wrap64 ((IntKind.u64.wrap xk).tmod 3) = (m3 : Int) := hK
  obtain ⟨g, o, eA, hg, c0⟩ := slc_at hs rfl hm
  have hll : (linesRes ts[m]).length ≤ 100000 := by
    unfold linesRes
    split
    · next h => exact Nat.le_trans (lines_short h).1 (by decide)
    · simp
  obtain ⟨m2, hm2, hL⟩ := fit_num xl ((linesRes ts[m]).length + 1) (by omega) (by omega)
  have hL2 : wrap64 ((IntKind.u64.wrap xl).tmod (((linesRes ts[m]).length : Int) + 1)) = (m2 : Int) := by rw [← hL]; simp
  clear hL hK hs
  generalize hx : ts[m] = x at c0 hL2 hll hm2
  clear hx
  unfold strV at c0
  subst eA
  rcases (show m3 = 0 ∨ m3 = 1 ∨ m3 = 2 by omega) with rfl | rfl | rfl
  · go_enter Tryd.func12, Tryd.ntmps12
    go_wp2_with fail
    refine (rlines_any _ _).mono ?_
    rintro e w1 ⟨v1, rfl, ho1, hb1⟩
    rw [bytes_str] at ho1 ⊢
    obtain ⟨A1, cc1, e1⟩ := slc_form (Slc.of_own ho1)
    subst e1
    clear ho1
    have hB0 : w1.heap[w.heap.size]? = some (.cells #[.int .i64 (m : Int), .int .i64 xl, .int .i64 xk, .string (str xt)] 32 (0, 0)) := by
      rw [hb1.block _ (by simp; omega), Below.heap_alloc _ _ _ (by simp)]; exact Go.heap_alloc_new w _
    have hB1 : w1.heap[w.heap.size + 1]? = some (.cells #[.int .i64 0, .int .i64 0, .int .i64 0, .string ⟨#[]⟩] 32 (0, 0)) := by
      rw [hb1.block _ (by simp)]
      have h := Go.heap_alloc_new (w.alloc (.cells #[.int .i64 (m : Int), .int .i64 xl, .int .i64 xk, .string (str xt)] 32)) (.cells #[.int .i64 0, .int .i64 0, .int .i64 0, .string ⟨#[]⟩] 32)
      simpa using h
    have hbb : Below w.heap.size w w1 := (((Below.refl _ w).alloc (Nat.le_refl _) _).alloc (by simp) _).trans (hb1.mono (by simp; omega))
    have f1 : w1.frozen? ⟨w.heap.size, 1, none⟩ = false := Lib.frozen_of_heap hB0 1
    have f2 : w1.frozen? ⟨w.heap.size, 2, none⟩ = false := Lib.frozen_of_heap hB0 2
    have b1 : w1.cell? ⟨w.heap.size, 1, none⟩ = some (.int .i64 xl) := Lib.cell_of_heap hB0 1
    have b2 : w1.cell? ⟨w.heap.size, 2, none⟩ = some (.int .i64 xk) := Lib.cell_of_heap hB0 2
    have HB0 := Lib.hid hB0
    have HB1 := Lib.hid hB1
    clear hB0 hB1 hb1
    go_upto_region 5 with (fail)
    have h5 := heap_setCell_same _ _ 2 _ _ (.int .i64 1) (heap_setCell_same w1 w.heap.size 1 _ _ (.int .i64 (1 + (m2 : Int))) HB0.out)
    have h6 : ((w1.setCell ⟨w.heap.size, 1, none⟩ (.int .i64 (1 + (m2 : Int)))).setCell ⟨w.heap.size, 2, none⟩ (.int .i64 1)).heap[w.heap.size + 1]? = _ := (heap_setCell_other _ _ _ _ (by simp)).trans ((heap_setCell_other _ _ _ _ (by simp)).trans HB1.out)
    have hb5 : Below w.heap.size w ((w1.setCell ⟨w.heap.size, 1, none⟩ (.int .i64 (1 + (m2 : Int)))).setCell ⟨w.heap.size, 2, none⟩ (.int .i64 1)) := (hbb.setCell (Nat.le_refl _) _).setCell (Nat.le_refl _) _
    generalize (w1.setCell ⟨w.heap.size, 1, none⟩ (.int .i64 (1 + (m2 : Int)))).setCell ⟨w.heap.size, 2, none⟩ (.int .i64 1) = w5 at *
    clear hbb HB0 HB1 f1 f2 b1 b2
    have b0 : w5.cell? ⟨w.heap.size, 0, none⟩ = some (.int .i64 (m : Int)) := Lib.cell_of_heap h5 0
    have b1 : w5.cell? ⟨w.heap.size, 1, none⟩ = some (.int .i64 (1 + (m2 : Int))) := Lib.cell_of_heap h5 1
    have b2 : w5.cell? ⟨w.heap.size, 2, none⟩ = some (.int .i64 1) := Lib.cell_of_heap h5 2
    have b3 : w5.cell? ⟨w.heap.size, 3, none⟩ = some (.string (str xt)) := Lib.cell_of_heap h5 3
    have f3 : w5.frozen? ⟨w.heap.size, 3, none⟩ = false := Lib.frozen_of_heap h5 3
    go_upto_region 7 with (fail)
    have g5 := heap_setCell_same w5 w.heap.size 3 _ _ (.string ⟨#[]⟩) h5
    have g6 : (w5.setCell ⟨w.heap.size, 3, none⟩ (.string ⟨#[]⟩)).heap[w.heap.size + 1]? = _ := (heap_setCell_other _ _ _ _ (by simp)).trans h6
    have gb := hb5.setCell (p := ⟨w.heap.size, 3, none⟩) (Nat.le_refl _) (.string ⟨#[]⟩)
    generalize w5.setCell ⟨w.heap.size, 3, none⟩ (.string ⟨#[]⟩) = w6 at *
    clear h5 h6 hb5 b0 b1 b2 b3 f3
    have b0 : w6.cell? ⟨w.heap.size, 0, none⟩ = some (.int .i64 (m : Int)) := Lib.cell_of_heap g5 0
    have b1 : w6.cell? ⟨w.heap.size, 1, none⟩ = some (.int .i64 (1 + (m2 : Int))) := Lib.cell_of_heap g5 1
    have b2 : w6.cell? ⟨w.heap.size, 2, none⟩ = some (.int .i64 1) := Lib.cell_of_heap g5 2
    have b3 : w6.cell? ⟨w.heap.size, 3, none⟩ = some (.string ⟨#[]⟩) := Lib.cell_of_heap g5 3
    have r0 : w6.cell? ⟨w.heap.size + 1, 0, none⟩ = some (.int .i64 0) := Lib.cell_of_heap g6 0
    have r1 : w6.cell? ⟨w.heap.size + 1, 1, none⟩ = some (.int .i64 0) := Lib.cell_of_heap g6 1
    have r2 : w6.cell? ⟨w.heap.size + 1, 2, none⟩ = some (.int .i64 0) := Lib.cell_of_heap g6 2
    have r3 : w6.cell? ⟨w.heap.size + 1, 3, none⟩ = some (.string ⟨#[]⟩) := Lib.cell_of_heap g6 3
    have q0 : w6.frozen? ⟨w.heap.size + 1, 0, none⟩ = false := Lib.frozen_of_heap g6 0
    have q1 : w6.frozen? ⟨w.heap.size + 1, 1, none⟩ = false := Lib.frozen_of_heap g6 1
    have q2 : w6.frozen? ⟨w.heap.size + 1, 2, none⟩ = false := Lib.frozen_of_heap g6 2
    have q3 : w6.frozen? ⟨w.heap.size + 1, 3, none⟩ = false := Lib.frozen_of_heap g6 3
    have G6 := Lib.hid g6
    clear g5 g6
    go_wp2_with fail
    have h7 := heap_setCell_same _ _ 3 _ _ (.string ⟨#[]⟩) (heap_setCell_same _ _ 2 _ _ (.int .i64 1) (heap_setCell_same _ _ 1 _ _ (.int .i64 (1 + (m2 : Int))) (heap_setCell_same w6 (w.heap.size + 1) 0 _ _ (.int .i64 (m : Int)) G6.out)))
    have g7 : Below w.heap.size w ((((w6.setCell ⟨w.heap.size + 1, 0, none⟩ (.int .i64 (m : Int))).setCell ⟨w.heap.size + 1, 1, none⟩ (.int .i64 (1 + (m2 : Int)))).setCell ⟨w.heap.size + 1, 2, none⟩ (.int .i64 1)).setCell ⟨w.heap.size + 1, 3, none⟩ (.string ⟨#[]⟩)) := (((gb.setCell (by simp) _).setCell (by simp) _).setCell (by simp) _).setCell (by simp) _
    generalize ((((w6.setCell ⟨w.heap.size + 1, 0, none⟩ (.int .i64 (m : Int))).setCell ⟨w.heap.size + 1, 1, none⟩ (.int .i64 (1 + (m2 : Int)))).setCell ⟨w.heap.size + 1, 2, none⟩ (.int .i64 1)).setCell ⟨w.heap.size + 1, 3, none⟩ (.string ⟨#[]⟩)) = w7 at *
    have s0 : w7.cell? ⟨w.heap.size + 1, 0, none⟩ = some (.int .i64 (m : Int)) := Lib.cell_of_heap h7 0
    have s1 : w7.cell? ⟨w.heap.size + 1, 1, none⟩ = some (.int .i64 (1 + (m2 : Int))) := Lib.cell_of_heap h7 1
    have s2 : w7.cell? ⟨w.heap.size + 1, 2, none⟩ = some (.int .i64 1) := Lib.cell_of_heap h7 2
    have s3 : w7.cell? ⟨w.heap.size + 1, 3, none⟩ = some (.string ⟨#[]⟩) := Lib.cell_of_heap h7 3
    refine bodyPost_ret (v := .agg #[.int .i64 (m : Int), .int .i64 (1 + (m2 : Int)), .int .i64 1, (.string ⟨#[]⟩)]) (by simp [results, Tryd.results12, go_sem, s0, s1, s2, s3]) rfl ⟨⟨m, 1 + m2, 1, []⟩, rfl, ⟨by simp, by simpa using hm, by simp, by simp⟩, g7⟩
  · go_enter Tryd.func12, Tryd.ntmps12
    go_wp2_with fail
    refine (rlines_any _ _).mono ?_
    rintro e w1 ⟨v1, rfl, ho1, hb1⟩
    rw [bytes_str] at ho1 ⊢
    obtain ⟨A1, cc1, e1⟩ := slc_form (Slc.of_own ho1)
    subst e1
    clear ho1
    have hB0 : w1.heap[w.heap.size]? = some (.cells #[.int .i64 (m : Int), .int .i64 xl, .int .i64 xk, .string (str xt)] 32 (0, 0)) := by
      rw [hb1.block _ (by simp; omega), Below.heap_alloc _ _ _ (by simp)]; exact Go.heap_alloc_new w _
    have hB1 : w1.heap[w.heap.size + 1]? = some (.cells #[.int .i64 0, .int .i64 0, .int .i64 0, .string ⟨#[]⟩] 32 (0, 0)) := by
      rw [hb1.block _ (by simp)]
      have h := Go.heap_alloc_new (w.alloc (.cells #[.int .i64 (m : Int), .int .i64 xl, .int .i64 xk, .string (str xt)] 32)) (.cells #[.int .i64 0, .int .i64 0, .int .i64 0, .string ⟨#[]⟩] 32)
      simpa using h
    have hbb : Below w.heap.size w w1 := (((Below.refl _ w).alloc (Nat.le_refl _) _).alloc (by simp) _).trans (hb1.mono (by simp; omega))
    have f1 : w1.frozen? ⟨w.heap.size, 1, none⟩ = false := Lib.frozen_of_heap hB0 1
    have f2 : w1.frozen? ⟨w.heap.size, 2, none⟩ = false := Lib.frozen_of_heap hB0 2
    have b1 : w1.cell? ⟨w.heap.size, 1, none⟩ = some (.int .i64 xl) := Lib.cell_of_heap hB0 1
    have b2 : w1.cell? ⟨w.heap.size, 2, none⟩ = some (.int .i64 xk) := Lib.cell_of_heap hB0 2
    have HB0 := Lib.hid hB0
    have HB1 := Lib.hid hB1
    clear hB0 hB1 hb1
    go_upto_region 5 with (fail)
    have h5 := heap_setCell_same _ _ 2 _ _ (.int .i64 2) (heap_setCell_same w1 w.heap.size 1 _ _ (.int .i64 (1 + (m2 : Int))) HB0.out)
    have h6 : ((w1.setCell ⟨w.heap.size, 1, none⟩ (.int .i64 (1 + (m2 : Int)))).setCell ⟨w.heap.size, 2, none⟩ (.int .i64 2)).heap[w.heap.size + 1]? = _ := (heap_setCell_other _ _ _ _ (by simp)).trans ((heap_setCell_other _ _ _ _ (by simp)).trans HB1.out)
    have hb5 : Below w.heap.size w ((w1.setCell ⟨w.heap.size, 1, none⟩ (.int .i64 (1 + (m2 : Int)))).setCell ⟨w.heap.size, 2, none⟩ (.int .i64 2)) := (hbb.setCell (Nat.le_refl _) _).setCell (Nat.le_refl _) _
    generalize (w1.setCell ⟨w.heap.size, 1, none⟩ (.int .i64 (1 + (m2 : Int)))).setCell ⟨w.heap.size, 2, none⟩ (.int .i64 2) = w5 at *
    clear hbb HB0 HB1 f1 f2 b1 b2
    have b0 : w5.cell? ⟨w.heap.size, 0, none⟩ = some (.int .i64 (m : Int)) := Lib.cell_of_heap h5 0
    have b1 : w5.cell? ⟨w.heap.size, 1, none⟩ = some (.int .i64 (1 + (m2 : Int))) := Lib.cell_of_heap h5 1
    have b2 : w5.cell? ⟨w.heap.size, 2, none⟩ = some (.int .i64 2) := Lib.cell_of_heap h5 2
    have b3 : w5.cell? ⟨w.heap.size, 3, none⟩ = some (.string (str xt)) := Lib.cell_of_heap h5 3
    have f3 : w5.frozen? ⟨w.heap.size, 3, none⟩ = false := Lib.frozen_of_heap h5 3
    go_upto_region 7 with (fail)
    have g5 := heap_setCell_same w5 w.heap.size 3 _ _ (.string ⟨#[]⟩) h5
    have g6 : (w5.setCell ⟨w.heap.size, 3, none⟩ (.string ⟨#[]⟩)).heap[w.heap.size + 1]? = _ := (heap_setCell_other _ _ _ _ (by simp)).trans h6
    have gb := hb5.setCell (p := ⟨w.heap.size, 3, none⟩) (Nat.le_refl _) (.string ⟨#[]⟩)
    generalize w5.setCell ⟨w.heap.size, 3, none⟩ (.string ⟨#[]⟩) = w6 at *
    clear h5 h6 hb5 b0 b1 b2 b3 f3
    have b0 : w6.cell? ⟨w.heap.size, 0, none⟩ = some (.int .i64 (m : Int)) := Lib.cell_of_heap g5 0
    have b1 : w6.cell? ⟨w.heap.size, 1, none⟩ = some (.int .i64 (1 + (m2 : Int))) := Lib.cell_of_heap g5 1
    have b2 : w6.cell? ⟨w.heap.size, 2, none⟩ = some (.int .i64 2) := Lib.cell_of_heap g5 2
    have b3 : w6.cell? ⟨w.heap.size, 3, none⟩ = some (.string ⟨#[]⟩) := Lib.cell_of_heap g5 3
    have r0 : w6.cell? ⟨w.heap.size + 1, 0, none⟩ = some (.int .i64 0) := Lib.cell_of_heap g6 0
    have r1 : w6.cell? ⟨w.heap.size + 1, 1, none⟩ = some (.int .i64 0) := Lib.cell_of_heap g6 1
    have r2 : w6.cell? ⟨w.heap.size + 1, 2, none⟩ = some (.int .i64 0) := Lib.cell_of_heap g6 2
    have r3 : w6.cell? ⟨w.heap.size + 1, 3, none⟩ = some (.string ⟨#[]⟩) := Lib.cell_of_heap g6 3
    have q0 : w6.frozen? ⟨w.heap.size + 1, 0, none⟩ = false := Lib.frozen_of_heap g6 0
    have q1 : w6.frozen? ⟨w.heap.size + 1, 1, none⟩ = false := Lib.frozen_of_heap g6 1
    have q2 : w6.frozen? ⟨w.heap.size + 1, 2, none⟩ = false := Lib.frozen_of_heap g6 2
    have q3 : w6.frozen? ⟨w.heap.size + 1, 3, none⟩ = false := Lib.frozen_of_heap g6 3
    have G6 := Lib.hid g6
    clear g5 g6
    go_wp2_with fail
    have h7 := heap_setCell_same _ _ 3 _ _ (.string ⟨#[]⟩) (heap_setCell_same _ _ 2 _ _ (.int .i64 2) (heap_setCell_same _ _ 1 _ _ (.int .i64 (1 + (m2 : Int))) (heap_setCell_same w6 (w.heap.size + 1) 0 _ _ (.int .i64 (m : Int)) G6.out)))
    have g7 : Below w.heap.size w ((((w6.setCell ⟨w.heap.size + 1, 0, none⟩ (.int .i64 (m : Int))).setCell ⟨w.heap.size + 1, 1, none⟩ (.int .i64 (1 + (m2 : Int)))).setCell ⟨w.heap.size + 1, 2, none⟩ (.int .i64 2)).setCell ⟨w.heap.size + 1, 3, none⟩ (.string ⟨#[]⟩)) := (((gb.setCell (by simp) _).setCell (by simp) _).setCell (by simp) _).setCell (by simp) _
    generalize ((((w6.setCell ⟨w.heap.size + 1, 0, none⟩ (.int .i64 (m : Int))).setCell ⟨w.heap.size + 1, 1, none⟩ (.int .i64 (1 + (m2 : Int)))).setCell ⟨w.heap.size + 1, 2, none⟩ (.int .i64 2)).setCell ⟨w.heap.size + 1, 3, none⟩ (.string ⟨#[]⟩)) = w7 at *
    have s0 : w7.cell? ⟨w.heap.size + 1, 0, none⟩ = some (.int .i64 (m : Int)) := Lib.cell_of_heap h7 0
    have s1 : w7.cell? ⟨w.heap.size + 1, 1, none⟩ = some (.int .i64 (1 + (m2 : Int))) := Lib.cell_of_heap h7 1
    have s2 : w7.cell? ⟨w.heap.size + 1, 2, none⟩ = some (.int .i64 2) := Lib.cell_of_heap h7 2
    have s3 : w7.cell? ⟨w.heap.size + 1, 3, none⟩ = some (.string ⟨#[]⟩) := Lib.cell_of_heap h7 3
    refine bodyPost_ret (v := .agg #[.int .i64 (m : Int), .int .i64 (1 + (m2 : Int)), .int .i64 2, (.string ⟨#[]⟩)]) (by simp [results, Tryd.results12, go_sem, s0, s1, s2, s3]) rfl ⟨⟨m, 1 + m2, 2, []⟩, rfl, ⟨by simp, by simpa using hm, by simp, by simp⟩, g7⟩
  · go_enter Tryd.func12, Tryd.ntmps12
    go_wp2_with fail
    refine (rlines_any _ _).mono ?_
    rintro e w1 ⟨v1, rfl, ho1, hb1⟩
    rw [bytes_str] at ho1 ⊢
    obtain ⟨A1, cc1, e1⟩ := slc_form (Slc.of_own ho1)
    subst e1
    clear ho1
    have hB0 : w1.heap[w.heap.size]? = some (.cells #[.int .i64 (m : Int), .int .i64 xl, .int .i64 xk, .string (str xt)] 32 (0, 0)) := by
      rw [hb1.block _ (by simp; omega), Below.heap_alloc _ _ _ (by simp)]; exact Go.heap_alloc_new w _
    have hB1 : w1.heap[w.heap.size + 1]? = some (.cells #[.int .i64 0, .int .i64 0, .int .i64 0, .string ⟨#[]⟩] 32 (0, 0)) := by
      rw [hb1.block _ (by simp)]
      have h := Go.heap_alloc_new (w.alloc (.cells #[.int .i64 (m : Int), .int .i64 xl, .int .i64 xk, .string (str xt)] 32)) (.cells #[.int .i64 0, .int .i64 0, .int .i64 0, .string ⟨#[]⟩] 32)
      simpa using h
    have hbb : Below w.heap.size w w1 := (((Below.refl _ w).alloc (Nat.le_refl _) _).alloc (by simp) _).trans (hb1.mono (by simp; omega))
    have f1 : w1.frozen? ⟨w.heap.size, 1, none⟩ = false := Lib.frozen_of_heap hB0 1
    have f2 : w1.frozen? ⟨w.heap.size, 2, none⟩ = false := Lib.frozen_of_heap hB0 2
    have b1 : w1.cell? ⟨w.heap.size, 1, none⟩ = some (.int .i64 xl) := Lib.cell_of_heap hB0 1
    have b2 : w1.cell? ⟨w.heap.size, 2, none⟩ = some (.int .i64 xk) := Lib.cell_of_heap hB0 2
    have HB0 := Lib.hid hB0
    have HB1 := Lib.hid hB1
    clear hB0 hB1 hb1
    go_upto_region 5 with (fail)
    have h5 := heap_setCell_same _ _ 2 _ _ (.int .i64 3) (heap_setCell_same w1 w.heap.size 1 _ _ (.int .i64 (1 + (m2 : Int))) HB0.out)
    have h6 : ((w1.setCell ⟨w.heap.size, 1, none⟩ (.int .i64 (1 + (m2 : Int)))).setCell ⟨w.heap.size, 2, none⟩ (.int .i64 3)).heap[w.heap.size + 1]? = _ := (heap_setCell_other _ _ _ _ (by simp)).trans ((heap_setCell_other _ _ _ _ (by simp)).trans HB1.out)
    have hb5 : Below w.heap.size w ((w1.setCell ⟨w.heap.size, 1, none⟩ (.int .i64 (1 + (m2 : Int)))).setCell ⟨w.heap.size, 2, none⟩ (.int .i64 3)) := (hbb.setCell (Nat.le_refl _) _).setCell (Nat.le_refl _) _
    generalize (w1.setCell ⟨w.heap.size, 1, none⟩ (.int .i64 (1 + (m2 : Int)))).setCell ⟨w.heap.size, 2, none⟩ (.int .i64 3) = w5 at *
    clear hbb HB0 HB1 f1 f2 b1 b2
    have b0 : w5.cell? ⟨w.heap.size, 0, none⟩ = some (.int .i64 (m : Int)) := Lib.cell_of_heap h5 0
    have b1 : w5.cell? ⟨w.heap.size, 1, none⟩ = some (.int .i64 (1 + (m2 : Int))) := Lib.cell_of_heap h5 1
    have b2 : w5.cell? ⟨w.heap.size, 2, none⟩ = some (.int .i64 3) := Lib.cell_of_heap h5 2
    have b3 : w5.cell? ⟨w.heap.size, 3, none⟩ = some (.string (str xt)) := Lib.cell_of_heap h5 3
    have f3 : w5.frozen? ⟨w.heap.size, 3, none⟩ = false := Lib.frozen_of_heap h5 3
    go_upto_region 7 with (fail)
    obtain ⟨w6, rfl⟩ : ∃ w6 : World, w6 = w5 := ⟨_, rfl⟩
    have g5 := h5
    have g6 := h6
    have gb := hb5
    clear h5 h6 hb5 b0 b1 b2 b3 f3
    have b0 : w6.cell? ⟨w.heap.size, 0, none⟩ = some (.int .i64 (m : Int)) := Lib.cell_of_heap g5 0
    have b1 : w6.cell? ⟨w.heap.size, 1, none⟩ = some (.int .i64 (1 + (m2 : Int))) := Lib.cell_of_heap g5 1
    have b2 : w6.cell? ⟨w.heap.size, 2, none⟩ = some (.int .i64 3) := Lib.cell_of_heap g5 2
    have b3 : w6.cell? ⟨w.heap.size, 3, none⟩ = some (.string (str xt)) := Lib.cell_of_heap g5 3
    have r0 : w6.cell? ⟨w.heap.size + 1, 0, none⟩ = some (.int .i64 0) := Lib.cell_of_heap g6 0
    have r1 : w6.cell? ⟨w.heap.size + 1, 1, none⟩ = some (.int .i64 0) := Lib.cell_of_heap g6 1
    have r2 : w6.cell? ⟨w.heap.size + 1, 2, none⟩ = some (.int .i64 0) := Lib.cell_of_heap g6 2
    have r3 : w6.cell? ⟨w.heap.size + 1, 3, none⟩ = some (.string ⟨#[]⟩) := Lib.cell_of_heap g6 3
    have q0 : w6.frozen? ⟨w.heap.size + 1, 0, none⟩ = false := Lib.frozen_of_heap g6 0
    have q1 : w6.frozen? ⟨w.heap.size + 1, 1, none⟩ = false := Lib.frozen_of_heap g6 1
    have q2 : w6.frozen? ⟨w.heap.size + 1, 2, none⟩ = false := Lib.frozen_of_heap g6 2
    have q3 : w6.frozen? ⟨w.heap.size + 1, 3, none⟩ = false := Lib.frozen_of_heap g6 3
    have G6 := Lib.hid g6
    clear g5 g6
    go_wp2_with fail
    have h7 := heap_setCell_same _ _ 3 _ _ (.string (str xt)) (heap_setCell_same _ _ 2 _ _ (.int .i64 3) (heap_setCell_same _ _ 1 _ _ (.int .i64 (1 + (m2 : Int))) (heap_setCell_same w6 (w.heap.size + 1) 0 _ _ (.int .i64 (m : Int)) G6.out)))
    have g7 : Below w.heap.size w ((((w6.setCell ⟨w.heap.size + 1, 0, none⟩ (.int .i64 (m : Int))).setCell ⟨w.heap.size + 1, 1, none⟩ (.int .i64 (1 + (m2 : Int)))).setCell ⟨w.heap.size + 1, 2, none⟩ (.int .i64 3)).setCell ⟨w.heap.size + 1, 3, none⟩ (.string (str xt))) := (((gb.setCell (by simp) _).setCell (by simp) _).setCell (by simp) _).setCell (by simp) _
    generalize ((((w6.setCell ⟨w.heap.size + 1, 0, none⟩ (.int .i64 (m : Int))).setCell ⟨w.heap.size + 1, 1, none⟩ (.int .i64 (1 + (m2 : Int)))).setCell ⟨w.heap.size + 1, 2, none⟩ (.int .i64 3)).setCell ⟨w.heap.size + 1, 3, none⟩ (.string (str xt))) = w7 at *
    have s0 : w7.cell? ⟨w.heap.size + 1, 0, none⟩ = some (.int .i64 (m : Int)) := Lib.cell_of_heap h7 0
    have s1 : w7.cell? ⟨w.heap.size + 1, 1, none⟩ = some (.int .i64 (1 + (m2 : Int))) := Lib.cell_of_heap h7 1
    have s2 : w7.cell? ⟨w.heap.size + 1, 2, none⟩ = some (.int .i64 3) := Lib.cell_of_heap h7 2
    have s3 : w7.cell? ⟨w.heap.size + 1, 3, none⟩ = some (.string (str xt)) := Lib.cell_of_heap h7 3
    refine bodyPost_ret (v := .agg #[.int .i64 (m : Int), .int .i64 (1 + (m2 : Int)), .int .i64 3, (.string (str xt))]) (by simp [results, Tryd.results12, go_sem, s0, s1, s2, s3]) rfl ⟨⟨m, 1 + m2, 3, xt⟩, rfl, ⟨by simp, by simpa using hm, by simp, by simp⟩, g7⟩
end Go.Proofs.YtpclacofcfbpjaaDoor
