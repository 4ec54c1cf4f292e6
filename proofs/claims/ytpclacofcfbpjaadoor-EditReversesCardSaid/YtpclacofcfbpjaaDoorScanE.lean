/- The walk of the comparison of two lists of strings. No condition beyond that both can be read. -/
import Derived.Test.YtpclacofcfbpjaaDoorScanD
namespace Go.Proofs.YtpclacofcfbpjaaDoor
open Go.RowKit

theorem toList_str (l : List UInt8) : (str l).toList = l := by rw [Go.ByteArray.toList_eq]; simp [str]
theorem list_step {α : Type} (l : List α) (k : Nat) (h : k < l.length) : l.drop k = l[k] :: l.drop (k + 1) := List.drop_eq_getElem_cons h
theorem slc_at {w : World} {B : Nat} {A : Option Addr} {n c : Nat} {xs : List (List UInt8)} (h : Slc w B 1 (.slice A n c) n (xs.map strV)) (hn : n = xs.length) {k : Nat} (hk : k < xs.length) :
    ∃ g o, A = some ⟨g, o, none⟩ ∧ g < B ∧ w.cell? ⟨g, o + k, none⟩ = some (strV xs[k]) := by
  obtain ⟨A', c', e, _, _, _, h⟩ := h
  injection e with e1 e2 e3
  subst e1
  obtain ⟨g, o, rfl, hg, hc⟩ := h (by omega)
  exact ⟨g, o, rfl, hg, hc k _ (by simp [hk])⟩

set_option maxHeartbeats 1000000 in
theorem strings_any (A B : Option Addr) (n m c d Z : Nat) (xs ys : List (List UInt8)) (w : World) (hx : Slc w Z 1 (.slice A n c) n (xs.map strV)) (hy : Slc w Z 1 (.slice B m d) m (ys.map strV)) (hn : n = xs.length) (hm : m = ys.length) :
    Calls Tryd.prog 15 #[.slice A n c, .slice B m d] w fun e w' => e = .returned (.bool (decide (xs = ys))) ∧ ∃ q, w' = w.drewN q := by
  have HX := Lib.hid hx
  have HY := Lib.hid hy
  have hb1 : n ≤ maxLen := by obtain ⟨_, _, e, h, _⟩ := hx; injection e with e1 e2 e3
  clear hx hy
  unfold maxLen at hb1
  cases he : ((n : Int) != m) with
  | true =>
    have hne : decide (xs = ys) = false := by
      simp only [decide_eq_false_iff_not]
      rintro rfl
      simp at he; omega
    have Hne := Lib.hid hne
    have HN := Lib.hid hn
    have HM := Lib.hid hm
    clear hn hm hne
    go_enter Tryd.func15, Tryd.ntmps15
    go_wp2
    go_ret
    exact ⟨ret_bool Hne.out.symm, 0, rfl⟩
  | false =>
    have hnm : n = m := by simp at he; omega
    have HN := Lib.hid hn
    have HM := Lib.hid (hm.symm.trans (hnm.symm.trans hn))
    have H0 : Hid (decide (xs = ys) = decide (xs.drop 0 = ys.drop 0)) := Lib.hid (by simp)
    subst hnm
    clear hn hm
    go_enter Tryd.func15, Tryd.ntmps15
    go_wp2
    go_loopw [4, 5] (fun _ i wr => ∃ k q : Nat, k ≤ n ∧ i = .int .i64 k ∧ wr = w.drewN q ∧ Hid (decide (xs = ys) = decide (xs.drop k = ys.drop k))) (fun _ i _ => n - (intOf i).toNat)
    case atStart => exact ⟨0, 0, by omega, rfl, rfl, H0⟩
    case round =>
      obtain ⟨k, q, hk, rfl, rfl, H⟩ := hrel
      by_cases hlt : k < n
      · have hxl : k < xs.length := by rw [← HN.out]; exact hlt
        have hyl : k < ys.length := by rw [HM.out]; exact hxl
        obtain ⟨g1, o1, eA, _, c1⟩ := slc_at HX.out HN.out hxl
        obtain ⟨g2, o2, eB, _, c2⟩ := slc_at HY.out (HN.out.trans HM.out.symm) hyl
        have E1 := Lib.hid (list_step xs k hxl)
        have E2 := Lib.hid (list_step ys k hyl)
        generalize xs[k] = x at c1 E1
        generalize ys[k] = y at c2 E2
        unfold strV at c1 c2
        clear hxl hyl
        subst eA eB
        go_wp2
        go_quiet (fail)
        go_wp2
        · have hxy : x ≠ y := by
            rintro rfl
            simp_all
          go_ret
          exact ⟨ret_bool (by rw [H.out, E1.out, E2.out]; simp [hxy]), q + nq, by rw [World.drewN_drewN]⟩
        · have hxy : x = y := by
            have h : (!(str x).toList == (str y).toList) = false := by assumption
            simpa [toList_str] using h
          go_roundw
          case rel => exact ⟨k + 1, q + nq, by omega, by go_num, rfl, Lib.hid (by rw [H.out, E1.out, E2.out, hxy]; simp)⟩
          case measure => simp [intOf]; omega
      · have e1 : xs.drop k = [] := List.drop_eq_nil_of_le (by rw [← HN.out]; omega)
        have e2 : ys.drop k = [] := List.drop_eq_nil_of_le (by rw [HM.out, ← HN.out]; omega)
        have HF : Hid (decide (xs = ys) = true) := Lib.hid (by rw [H.out, e1, e2]; rfl)
        clear e1 e2
        go_wp2
        go_ret
        exact ⟨ret_bool HF.out.symm, q, rfl⟩
end Go.Proofs.YtpclacofcfbpjaaDoor
