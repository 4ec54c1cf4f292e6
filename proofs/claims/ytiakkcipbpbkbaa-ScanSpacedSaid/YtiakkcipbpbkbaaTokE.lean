/- The walk of the comparison of two lists of tokens. No condition. -/
import Derived.Test.YtiakkcipbpbkbaaTokR
import Derived.Laws.StructEq
namespace Go.Proofs.Ytiakkcipbpbkbaa
open Go.RowKit

theorem flat_get : ∀ (xs : List (Int × List UInt8)) (k : Nat) (h : k < xs.length), (xs.flatMap tokCells)[k * 2]? = some (.int .i64 xs[k].1) ∧ (xs.flatMap tokCells)[k * 2 + 1]? = some (strV xs[k].2) := by
  intro xs
  induction xs with
  | nil => intro k h; simp at h
  | cons x r ih =>
    intro k h
    cases k with
    | zero => simp [tokCells]
    | succ k =>
      have := ih k (by simpa using h)
      have e1 : (k + 1) * 2 = k * 2 + 1 + 1 := by omega
      have e2 : (k + 1) * 2 + 1 = k * 2 + 1 + 1 + 1 := by omega
      rw [e1]
      simpa [tokCells] using this
theorem slc_tok {w : World} {B : Nat} {A : Option Addr} {n c : Nat} {xs : List (Int × List UInt8)} (h : Slc w B 2 (.slice A n c) n (xs.flatMap tokCells)) (hn : n = xs.length) {k : Nat} (hk : k < xs.length) :
    ∃ g o, A = some ⟨g, o, none⟩ ∧ g < B ∧ w.cell? ⟨g, o + k * 2, none⟩ = some (.int .i64 xs[k].1) ∧ w.cell? ⟨g, o + k * 2 + 1, none⟩ = some (strV xs[k].2) := by
  obtain ⟨A', c', e, _, _, _, h⟩ := h
  injection e with e1 e2 e3
  subst e1
  obtain ⟨g, o, rfl, hg, hc⟩ := h (by omega)
  obtain ⟨h1, h2⟩ := flat_get xs k hk
  exact ⟨g, o, rfl, hg, hc _ _ h1, hc _ _ h2⟩

theorem Try.tokGuard : Try.prog.eqGuardType Try.prog.depth 44 = false := by kernel_rfl
theorem Try.tokStood : Try.prog.stoodInHeld 44 = false := by kernel_rfl
theorem tok_neq (x1 y1 : Int) (x2 y2 : List UInt8) (w : World) : (binOp .neq 44 (.agg #[.int .i64 x1, .string (str x2)]) (.agg #[.int .i64 y1, .string (str y2)])).run Try.prog w = .ok (.bool (!(decide (x1 = y1 ∧ x2 = y2)))) w := by
  have e : ((str x2).toList == (str y2).toList) = decide (x2 = y2) := by rw [toList_str, toList_str, Bool.eq_iff_iff]; simp
  have hp := Try.tokStood
  by_cases h1 : x1 = y1
  · subst h1
    simp [go_sem, hp, e]
    split <;> simp_all
  · have h2 : (x1 == y1) = false := by simp [h1]
    simp [go_sem, hp, h1, h2]

set_option maxHeartbeats 1000000 in
theorem tokeq_any (A B : Option Addr) (n m c d Z : Nat) (xs ys : List (Int × List UInt8)) (w : World) (hx : Slc w Z 2 (.slice A n c) n (xs.flatMap tokCells)) (hy : Slc w Z 2 (.slice B m d) m (ys.flatMap tokCells)) (hn : n = xs.length) (hm : m = ys.length) :
    Calls Try.prog 26 #[.slice A n c, .slice B m d] w fun e w' => e = .returned (.bool (decide (xs = ys))) ∧ ∃ q, w' = w.drewN q := by
  have HX := Lib.hid hx
  have HY := Lib.hid hy
  have hb1 : n ≤ maxLen := by obtain ⟨_, _, e, h, _⟩ := hx; injection e with e1 e2 e3
  clear hx hy
  unfold maxLen at hb1
  cases he : ((n : Int) != m) with
  | true =>
    have hne : decide (xs = ys) = false := by
      simp only [decide_eq_false_iff_not]
      rintro rfl
      simp at he; omega
    have Hne := Lib.hid hne
    have HN := Lib.hid hn
    have HM := Lib.hid hm
    clear hn hm hne
    go_enter Try.func26, Try.ntmps26
    go_wp2
    go_ret
    exact ⟨ret_bool Hne.out.symm, 0, rfl⟩
  | false =>
    have hnm : n = m := by simp at he; omega
    have HN := Lib.hid hn
    have HM := Lib.hid (hm.symm.trans (hnm.symm.trans hn))
    have H0 : Hid (decide (xs = ys) = decide (xs.drop 0 = ys.drop 0)) := Lib.hid (by simp)
    subst hnm
    clear hn hm
    go_enter Try.func26, Try.ntmps26
    go_wp2
    go_loopw [4, 5] (fun _ i wr => ∃ k q : Nat, k ≤ n ∧ i = .int .i64 k ∧ wr = w.drewN q ∧ Hid (decide (xs = ys) = decide (xs.drop k = ys.drop k))) (fun _ i _ => n - (intOf i).toNat)
    case atStart => exact ⟨0, 0, by omega, rfl, rfl, H0⟩
    case round =>
      obtain ⟨k, q, hk, rfl, rfl, H⟩ := hrel
      by_cases hlt : k < n
      · have hxl : k < xs.length := by rw [← HN.out]; exact hlt
        have hyl : k < ys.length := by rw [HM.out]; exact hxl
        obtain ⟨g1, o1, eA, _, c1, c2⟩ := slc_tok HX.out HN.out hxl
        obtain ⟨g2, o2, eB, _, c3, c4⟩ := slc_tok HY.out (HN.out.trans HM.out.symm) hyl
        have E1 := Lib.hid (list_step xs k hxl)
        have E2 := Lib.hid (list_step ys k hyl)
        generalize xs[k] = x at c1 c2 E1
        generalize ys[k] = y at c3 c4 E2
        obtain ⟨x1, x2⟩ := x
        obtain ⟨y1, y2⟩ := y
        unfold strV at c2 c4
        simp only at c1 c2 c3 c4
        clear hxl hyl
        subst eA eB
        have hq := Try.tokGuard
        have hr := tok_neq x1 y1 x2 y2
        cases hxy : decide (x1 = y1 ∧ x2 = y2) with
        | false =>
          rw [hxy] at hr
          go_wp2
          go_quiet (fail)
          go_wp2
          go_ret
          exact ⟨ret_bool (by rw [H.out, E1.out, E2.out]; simp at hxy ⊢; intro h1 h2; exact absurd h2 (hxy h1)), q + nq, by rw [World.drewN_drewN]⟩
        | true =>
          rw [hxy] at hr
          go_wp2
          go_quiet (fail)
          go_wp2
          go_roundw
          case rel => exact ⟨k + 1, q + nq, by omega, by go_num, rfl, Lib.hid (by rw [H.out, E1.out, E2.out]; simp at hxy; simp [hxy.1, hxy.2])⟩
          case measure => simp [intOf]; omega
      · have e1 : xs.drop k = [] := List.drop_eq_nil_of_le (by rw [← HN.out]; omega)
        have e2 : ys.drop k = [] := List.drop_eq_nil_of_le (by rw [HM.out, ← HN.out]; omega)
        have HF : Hid (decide (xs = ys) = true) := Lib.hid (by rw [H.out, e1, e2]; rfl)
        clear e1 e2
        go_wp2
        go_ret
        exact ⟨ret_bool HF.out.symm, q, rfl⟩
end Go.Proofs.Ytiakkcipbpbkbaa
