/- The walks of Number, the program's and the reference's. No condition. -/
import Derived.Test.YtnhemjdmleilcaaDoorScanA
namespace Go.Proofs.YtnhemjdmleilcaaDoor
open Go.RowKit

theorem num_none {l : List UInt8} (h : numOf l = none) (least most : Int) : numIn l least most = none := by simp [numIn, h]
theorem num_short {s : ByteArray} (h : s.size < 1) : numOf (bytes s) = none := by
  rw [List.eq_nil_of_length_eq_zero (by rw [bytes_len]; omega : (bytes s).length = 0)]; rfl
theorem bytes_two {s : ByteArray} (h : 1 < s.size) : bytes s = s[0] :: s[1] :: (bytes s).drop 2 := by
  conv => lhs; rw [← List.drop_zero (l := bytes s), drop_step s 0 (by omega), drop_step s 1 (by omega)]
theorem num_long {s : ByteArray} (h : 10 < s.size) : numOf (bytes s) = none := by
  have hl := bytes_len s
  rw [bytes_two (by omega)] at hl ⊢
  simp only [numOf, numForm, hl]
  rw [decide_eq_false (by omega)]; rfl
theorem num_zero {s : ByteArray} (h : 1 < s.size) (h0 : ((s[0].toNat : Int) == 48) = true) : numOf (bytes s) = none := by
  rw [bytes_two h]
  simp [numOf, numForm, h0]
theorem num_fits {s : ByteArray} (h1 : 0 < s.size) (h2 : ¬ 10 < s.size) (h3 : ¬ (1 < s.size ∧ ((s[0].toNat : Int) == 48) = true)) : numOf (bytes s) = numGo 0 ((bytes s).drop 0) := by
  rw [List.drop_zero]
  by_cases h : 1 < s.size
  · have hl := bytes_len s
    have h4 : ((s[0].toNat : Int) == 48) = false := by
      cases h' : ((s[0].toNat : Int) == 48)
      · rfl
      · exact absurd ⟨h, h'⟩ h3
    have e : numForm (bytes s) = true := by
      rw [bytes_two h] at hl ⊢
      simp only [numForm, hl, h4]
      rw [decide_eq_true (by omega)]; rfl
    simp [numOf, e]
  · have hs : bytes s = [s[0]] := by
      conv => lhs; rw [← List.drop_zero (l := bytes s), drop_step s 0 (by omega), drop_end s 1 (by omega)]
    have e : numForm (bytes s) = true := by rw [hs]; rfl
    simp [numOf, e]
theorem num_bd {n : Int} {k : Nat} (hk : k ≤ 9) (h : n < 10 ^ k) : n ≤ 999999999 := by
  have : (10 : Int) ^ k ≤ 10 ^ 9 := by
    have h1 : (10 : Nat) ^ k ≤ 10 ^ 9 := Nat.pow_le_pow_right (by omega) hk
    exact_mod_cast h1
  have e : (10 : Int) ^ 9 = 1000000000 := by decide
  omega
theorem pow_step {n d : Int} {k : Nat} (h : n < 10 ^ k) (hd : d ≤ 9) : n * 10 + d < 10 ^ (k + 1) := by
  rw [Int.pow_succ]; omega
theorem numGo_stop (s : ByteArray) (k : Nat) (n : Int) (h : k < s.size) (hd : digitB s[k].toNat = false) : numGo n ((bytes s).drop k) = none := by
  rw [drop_step s k h, numGo, hd]; rfl
theorem numGo_go (s : ByteArray) (k : Nat) (n : Int) (h : k < s.size) (hd : digitB s[k].toNat = true) :
    numGo n ((bytes s).drop k) = numGo (n * 10 + (s[k].toNat - 48)) ((bytes s).drop (k + 1)) ∧ 48 ≤ (s[k].toNat : Int) ∧ (s[k].toNat : Int) ≤ 57 := by
  refine ⟨by rw [drop_step s k h, numGo, hd]; rfl, ?_⟩
  simp only [digitB, Bool.and_eq_true, decide_eq_true_eq] at hd
  exact hd
theorem numGo_end (s : ByteArray) (k : Nat) (n : Int) (h : ¬ k < s.size) (e : numOf (bytes s) = numGo n ((bytes s).drop k)) : numOf (bytes s) = some n := by
  rw [e, drop_end s k h]; rfl
theorem digit_no {c : Int} (h : digitB c = false) : c < 48 ∨ 57 < c := by
  simp only [digitB, Bool.and_eq_false_iff, decide_eq_false_iff_not] at h; omega
theorem num_out {l : List UInt8} {n least most : Int} (e : numOf l = some n) (h : n < least ∨ most < n) : numIn l least most = none := by
  simp only [numIn, e]; rw [if_neg (by omega)]
theorem num_in {l : List UInt8} {n least most : Int} (e : numOf l = some n) (h1 : least ≤ n) (h2 : n ≤ most) : numIn l least most = some n := by
  simp only [numIn, e]; rw [if_pos ⟨h1, h2⟩]

set_option maxRecDepth 4000 in
set_option maxHeartbeats 400000 in
theorem number_any (s : ByteArray) (least most : Int) (w : World) : Calls Tryd.prog 87 #[.string s, .int .i64 least, .int .i64 most] w fun e w' =>
    e = .returned (.tuple #[.int .i64 (numV (numIn (bytes s) least most)), .bool (numIn (bytes s) least most).isSome]) ∧ w = w' := by
  by_cases h1 : s.size < 1
  · have Hf := Lib.hid (num_none (num_short h1) least most)
    go_enter Tryd.func87, Tryd.ntmps87
    go_wp2
    go_ret2
    exact ⟨by rw [Hf.out]; rfl, rfl⟩
  by_cases h2 : 10 < s.size
  · have Hf := Lib.hid (num_none (num_long h2) least most)
    go_enter Tryd.func87, Tryd.ntmps87
    go_wp2
    go_ret2
    exact ⟨by rw [Hf.out]; rfl, rfl⟩
  have d1 : decide ((s.size : Int) < 1) = false := by simp; omega
  have d2 : decide ((10 : Int) < s.size) = false := by simp; omega
  by_cases h3 : 1 < s.size ∧ ((s[0].toNat : Int) == 48) = true
  · obtain ⟨h3, h4⟩ := h3
    have Hf := Lib.hid (num_none (num_zero h3 h4) least most)
    go_enter Tryd.func87, Tryd.ntmps87
    go_wp2
    go_ret2
    exact ⟨by rw [Hf.out]; rfl, rfl⟩
  have Hs := Lib.hid (num_fits (by omega) h2 h3)
  by_cases h5 : 1 < s.size
  · have d5 : decide ((1 : Int) < s.size) = true := by simp; omega
    have h6 : ((s[0].toNat : Int) == 48) = false := by
      cases h : ((s[0].toNat : Int) == 48)
      · rfl
      · exact absurd ⟨h5, h⟩ h3
    clear h3
    go_enter Tryd.func87, Tryd.ntmps87
    go_wp2_with fail
    go_loop [6, 7, 8, 9] (fun _ _ v i => ∃ (k : Nat) (n : Int), k ≤ s.size ∧ 0 ≤ n ∧ i = .int .i64 k ∧ v = .int .i64 n ∧ Hid (n < 10 ^ k) ∧ Hid (numOf (bytes s) = numGo n ((bytes s).drop k))) (fun _ _ _ i => s.size - (intOf i).toNat)
    case atStart => exact ⟨0, 0, by omega, by omega, rfl, rfl, Lib.hid (by decide), Hs⟩
    case round =>
      obtain ⟨k, n, hk, hn, rfl, rfl, HB, H⟩ := hrel
      by_cases hlt : k < s.size
      · have hn2 : n ≤ 999999999 := num_bd (by omega) HB.out
        cases hd : digitB s[k].toNat with
        | false =>
          have E := Lib.hid (numGo_stop s k n hlt hd)
          skip
          all_goals go_wp2_with (first | (go_at_call 68; refine (digit_any _ _).mono ?_; rintro e w' ⟨rfl, rfl⟩))
          all_goals (go_ret2; exact ⟨by rw [num_none (H.out.trans E.out)]; rfl, rfl⟩)
        | true =>
          obtain ⟨E0, hd1, hd2⟩ := numGo_go s k n hlt hd
          have E := Lib.hid E0; clear E0
          skip
          go_wp2_with (first | (go_at_call 68; refine (digit_any _ _).mono ?_; rintro e w' ⟨rfl, rfl⟩))
          go_round
          case rel => exact ⟨k + 1, n * 10 + (s[k].toNat - 48), by omega, by omega, by go_num, by go_num, Lib.hid (pow_step HB.out (by omega)), Lib.hid (H.out.trans E.out)⟩
          case measure => simp [intOf]; omega
      · have E := Lib.hid (numGo_end s k n hlt H.out)
        clear H HB
        by_cases hl : n < least
        · have Hf := Lib.hid (num_out (most := most) E.out (Or.inl hl))
          go_wp2_with fail
          go_ret2
          exact ⟨by rw [Hf.out]; rfl, rfl⟩
        by_cases hm : most < n
        · have Hf := Lib.hid (num_out (least := least) E.out (Or.inr hm))
          go_wp2_with fail
          go_ret2
          exact ⟨by rw [Hf.out]; rfl, rfl⟩
        have Hf := Lib.hid (num_in E.out (Int.not_lt.1 hl) (Int.not_lt.1 hm))
        go_wp2_with fail
        go_ret2
        exact ⟨by rw [Hf.out]; rfl, rfl⟩
  · have d5 : decide ((1 : Int) < s.size) = false := by simp; omega
    clear h3
    go_enter Tryd.func87, Tryd.ntmps87
    go_wp2_with fail
    go_loop [6, 7, 8, 9] (fun _ _ v i => ∃ (k : Nat) (n : Int), k ≤ s.size ∧ 0 ≤ n ∧ i = .int .i64 k ∧ v = .int .i64 n ∧ Hid (n < 10 ^ k) ∧ Hid (numOf (bytes s) = numGo n ((bytes s).drop k))) (fun _ _ _ i => s.size - (intOf i).toNat)
    case atStart => exact ⟨0, 0, by omega, by omega, rfl, rfl, Lib.hid (by decide), Hs⟩
    case round =>
      obtain ⟨k, n, hk, hn, rfl, rfl, HB, H⟩ := hrel
      by_cases hlt : k < s.size
      · have hn2 : n ≤ 999999999 := num_bd (by omega) HB.out
        cases hd : digitB s[k].toNat with
        | false =>
          have E := Lib.hid (numGo_stop s k n hlt hd)
          skip
          all_goals go_wp2_with (first | (go_at_call 68; refine (digit_any _ _).mono ?_; rintro e w' ⟨rfl, rfl⟩))
          all_goals (go_ret2; exact ⟨by rw [num_none (H.out.trans E.out)]; rfl, rfl⟩)
        | true =>
          obtain ⟨E0, hd1, hd2⟩ := numGo_go s k n hlt hd
          have E := Lib.hid E0; clear E0
          skip
          go_wp2_with (first | (go_at_call 68; refine (digit_any _ _).mono ?_; rintro e w' ⟨rfl, rfl⟩))
          go_round
          case rel => exact ⟨k + 1, n * 10 + (s[k].toNat - 48), by omega, by omega, by go_num, by go_num, Lib.hid (pow_step HB.out (by omega)), Lib.hid (H.out.trans E.out)⟩
          case measure => simp [intOf]; omega
      · have E := Lib.hid (numGo_end s k n hlt H.out)
        clear H HB
        by_cases hl : n < least
        · have Hf := Lib.hid (num_out (most := most) E.out (Or.inl hl))
          go_wp2_with fail
          go_ret2
          exact ⟨by rw [Hf.out]; rfl, rfl⟩
        by_cases hm : most < n
        · have Hf := Lib.hid (num_out (least := least) E.out (Or.inr hm))
          go_wp2_with fail
          go_ret2
          exact ⟨by rw [Hf.out]; rfl, rfl⟩
        have Hf := Lib.hid (num_in E.out (Int.not_lt.1 hl) (Int.not_lt.1 hm))
        go_wp2_with fail
        go_ret2
        exact ⟨by rw [Hf.out]; rfl, rfl⟩

set_option maxRecDepth 4000 in
set_option maxHeartbeats 400000 in
theorem rnumber_any (s : ByteArray) (least most : Int) (w : World) : Calls Tryd.prog 81 #[.string s, .int .i64 least, .int .i64 most] w fun e w' =>
    e = .returned (.tuple #[.int .i64 (numV (numIn (bytes s) least most)), .bool (numIn (bytes s) least most).isSome]) ∧ w = w' := by
  by_cases h1 : s.size < 1
  · have Hf := Lib.hid (num_none (num_short h1) least most)
    go_enter Tryd.func81, Tryd.ntmps81
    go_wp2
    go_ret2
    exact ⟨by rw [Hf.out]; rfl, rfl⟩
  by_cases h2 : 10 < s.size
  · have Hf := Lib.hid (num_none (num_long h2) least most)
    go_enter Tryd.func81, Tryd.ntmps81
    go_wp2
    go_ret2
    exact ⟨by rw [Hf.out]; rfl, rfl⟩
  have d1 : decide ((s.size : Int) < 1) = false := by simp; omega
  have d2 : decide ((10 : Int) < s.size) = false := by simp; omega
  by_cases h3 : 1 < s.size ∧ ((s[0].toNat : Int) == 48) = true
  · obtain ⟨h3, h4⟩ := h3
    have Hf := Lib.hid (num_none (num_zero h3 h4) least most)
    go_enter Tryd.func81, Tryd.ntmps81
    go_wp2
    go_ret2
    exact ⟨by rw [Hf.out]; rfl, rfl⟩
  have Hs := Lib.hid (num_fits (by omega) h2 h3)
  by_cases h5 : 1 < s.size
  · have d5 : decide ((1 : Int) < s.size) = true := by simp; omega
    have h6 : ((s[0].toNat : Int) == 48) = false := by
      cases h : ((s[0].toNat : Int) == 48)
      · rfl
      · exact absurd ⟨h5, h⟩ h3
    clear h3
    go_enter Tryd.func81, Tryd.ntmps81
    go_wp2_with fail
    go_loop [6, 7, 8, 9] (fun _ _ v i => ∃ (k : Nat) (n : Int), k ≤ s.size ∧ 0 ≤ n ∧ i = .int .i64 k ∧ v = .int .i64 n ∧ Hid (n < 10 ^ k) ∧ Hid (numOf (bytes s) = numGo n ((bytes s).drop k))) (fun _ _ _ i => s.size - (intOf i).toNat)
    case atStart => exact ⟨0, 0, by omega, by omega, rfl, rfl, Lib.hid (by decide), Hs⟩
    case round =>
      obtain ⟨k, n, hk, hn, rfl, rfl, HB, H⟩ := hrel
      by_cases hlt : k < s.size
      · have hn2 : n ≤ 999999999 := num_bd (by omega) HB.out
        cases hd : digitB s[k].toNat with
        | false =>
          have E := Lib.hid (numGo_stop s k n hlt hd)
          rcases digit_no hd with hd3 | hd3
          all_goals go_wp2_with fail
          all_goals (go_ret2; exact ⟨by rw [num_none (H.out.trans E.out)]; rfl, rfl⟩)
        | true =>
          obtain ⟨E0, hd1, hd2⟩ := numGo_go s k n hlt hd
          have E := Lib.hid E0; clear E0
          skip
          go_wp2_with fail
          go_round
          case rel => exact ⟨k + 1, n * 10 + (s[k].toNat - 48), by omega, by omega, by go_num, by go_num, Lib.hid (pow_step HB.out (by omega)), Lib.hid (H.out.trans E.out)⟩
          case measure => simp [intOf]; omega
      · have E := Lib.hid (numGo_end s k n hlt H.out)
        clear H HB
        by_cases hl : n < least
        · have Hf := Lib.hid (num_out (most := most) E.out (Or.inl hl))
          go_wp2_with fail
          go_ret2
          exact ⟨by rw [Hf.out]; rfl, rfl⟩
        by_cases hm : most < n
        · have Hf := Lib.hid (num_out (least := least) E.out (Or.inr hm))
          go_wp2_with fail
          go_ret2
          exact ⟨by rw [Hf.out]; rfl, rfl⟩
        have Hf := Lib.hid (num_in E.out (Int.not_lt.1 hl) (Int.not_lt.1 hm))
        go_wp2_with fail
        go_ret2
        exact ⟨by rw [Hf.out]; rfl, rfl⟩
  · have d5 : decide ((1 : Int) < s.size) = false := by simp; omega
    clear h3
    cases h6 : ((s[0].toNat : Int) == 48) with
    | true =>
        go_enter Tryd.func81, Tryd.ntmps81
        go_wp2_with fail
        go_loop [6, 7, 8, 9] (fun _ _ v i => ∃ (k : Nat) (n : Int), k ≤ s.size ∧ 0 ≤ n ∧ i = .int .i64 k ∧ v = .int .i64 n ∧ Hid (n < 10 ^ k) ∧ Hid (numOf (bytes s) = numGo n ((bytes s).drop k))) (fun _ _ _ i => s.size - (intOf i).toNat)
        case atStart => exact ⟨0, 0, by omega, by omega, rfl, rfl, Lib.hid (by decide), Hs⟩
        case round =>
          obtain ⟨k, n, hk, hn, rfl, rfl, HB, H⟩ := hrel
          by_cases hlt : k < s.size
          · have hn2 : n ≤ 999999999 := num_bd (by omega) HB.out
            cases hd : digitB s[k].toNat with
            | false =>
              have E := Lib.hid (numGo_stop s k n hlt hd)
              rcases digit_no hd with hd3 | hd3
              all_goals go_wp2_with fail
              all_goals (go_ret2; exact ⟨by rw [num_none (H.out.trans E.out)]; rfl, rfl⟩)
            | true =>
              obtain ⟨E0, hd1, hd2⟩ := numGo_go s k n hlt hd
              have E := Lib.hid E0; clear E0
              skip
              go_wp2_with fail
              go_round
              case rel => exact ⟨k + 1, n * 10 + (s[k].toNat - 48), by omega, by omega, by go_num, by go_num, Lib.hid (pow_step HB.out (by omega)), Lib.hid (H.out.trans E.out)⟩
              case measure => simp [intOf]; omega
          · have E := Lib.hid (numGo_end s k n hlt H.out)
            clear H HB
            by_cases hl : n < least
            · have Hf := Lib.hid (num_out (most := most) E.out (Or.inl hl))
              go_wp2_with fail
              go_ret2
              exact ⟨by rw [Hf.out]; rfl, rfl⟩
            by_cases hm : most < n
            · have Hf := Lib.hid (num_out (least := least) E.out (Or.inr hm))
              go_wp2_with fail
              go_ret2
              exact ⟨by rw [Hf.out]; rfl, rfl⟩
            have Hf := Lib.hid (num_in E.out (Int.not_lt.1 hl) (Int.not_lt.1 hm))
            go_wp2_with fail
            go_ret2
            exact ⟨by rw [Hf.out]; rfl, rfl⟩
    | false =>
        go_enter Tryd.func81, Tryd.ntmps81
        go_wp2_with fail
        go_loop [6, 7, 8, 9] (fun _ _ v i => ∃ (k : Nat) (n : Int), k ≤ s.size ∧ 0 ≤ n ∧ i = .int .i64 k ∧ v = .int .i64 n ∧ Hid (n < 10 ^ k) ∧ Hid (numOf (bytes s) = numGo n ((bytes s).drop k))) (fun _ _ _ i => s.size - (intOf i).toNat)
        case atStart => exact ⟨0, 0, by omega, by omega, rfl, rfl, Lib.hid (by decide), Hs⟩
        case round =>
          obtain ⟨k, n, hk, hn, rfl, rfl, HB, H⟩ := hrel
          by_cases hlt : k < s.size
          · have hn2 : n ≤ 999999999 := num_bd (by omega) HB.out
            cases hd : digitB s[k].toNat with
            | false =>
              have E := Lib.hid (numGo_stop s k n hlt hd)
              rcases digit_no hd with hd3 | hd3
              all_goals go_wp2_with fail
              all_goals (go_ret2; exact ⟨by rw [num_none (H.out.trans E.out)]; rfl, rfl⟩)
            | true =>
              obtain ⟨E0, hd1, hd2⟩ := numGo_go s k n hlt hd
              have E := Lib.hid E0; clear E0
              skip
              go_wp2_with fail
              go_round
              case rel => exact ⟨k + 1, n * 10 + (s[k].toNat - 48), by omega, by omega, by go_num, by go_num, Lib.hid (pow_step HB.out (by omega)), Lib.hid (H.out.trans E.out)⟩
              case measure => simp [intOf]; omega
          · have E := Lib.hid (numGo_end s k n hlt H.out)
            clear H HB
            by_cases hl : n < least
            · have Hf := Lib.hid (num_out (most := most) E.out (Or.inl hl))
              go_wp2_with fail
              go_ret2
              exact ⟨by rw [Hf.out]; rfl, rfl⟩
            by_cases hm : most < n
            · have Hf := Lib.hid (num_out (least := least) E.out (Or.inr hm))
              go_wp2_with fail
              go_ret2
              exact ⟨by rw [Hf.out]; rfl, rfl⟩
            have Hf := Lib.hid (num_in E.out (Int.not_lt.1 hl) (Int.not_lt.1 hm))
            go_wp2_with fail
            go_ret2
            exact ⟨by rw [Hf.out]; rfl, rfl⟩
end Go.Proofs.YtnhemjdmleilcaaDoor
