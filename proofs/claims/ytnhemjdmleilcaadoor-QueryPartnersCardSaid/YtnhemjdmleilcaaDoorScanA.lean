/- The walks of the small functions of scan and of its reference, and of Name. No condition. -/
import Derived.Test.YtnhemjdmleilcaaDoorScanS
namespace Go.Proofs.YtnhemjdmleilcaaDoor
open Go.RowKit

theorem blank_any (c : Int) (w : World) : Calls Tryd.prog 71 #[.int .u8 c] w fun e w' => e = .returned (.bool (blankB c)) ∧ w = w' := by
  go_enter Tryd.func71, Tryd.ntmps71
  go_wp2
  all_goals (go_ret; refine ⟨?_, rfl⟩; simp_all [blankB])
theorem digit_any (c : Int) (w : World) : Calls Tryd.prog 68 #[.int .u8 c] w fun e w' => e = .returned (.bool (digitB c)) ∧ w = w' := by
  go_enter Tryd.func68, Tryd.ntmps68
  go_wp2
  all_goals (go_ret; refine ⟨?_, rfl⟩; (try simp_all [digitB]) <;> omega)
theorem letter_any (c : Int) (w : World) : Calls Tryd.prog 67 #[.int .u8 c] w fun e w' => e = .returned (.bool (letterB c)) ∧ w = w' := by
  go_enter Tryd.func67, Tryd.ntmps67
  go_wp2
  all_goals (go_ret; refine ⟨ret_bool ?_, rfl⟩; rw [Bool.eq_iff_iff]; (try simp [letterB]) <;> omega)
theorem rletter_any (c : Int) (w : World) : Calls Tryd.prog 69 #[.int .u8 c] w fun e w' => e = .returned (.bool (letterB c)) ∧ w = w' := by
  go_enter Tryd.func69, Tryd.ntmps69
  go_wp2
  all_goals (go_ret; refine ⟨ret_bool ?_, rfl⟩; rw [Bool.eq_iff_iff]; (try simp [letterB]) <;> omega)

theorem name_short {s : ByteArray} (h : s.size < 1) : nameB (bytes s) = false := by
  rw [List.eq_nil_of_length_eq_zero (by rw [bytes_len]; omega : (bytes s).length = 0)]; rfl
theorem name_long {s : ByteArray} (h : 15 < s.size) : nameB (bytes s) = false := by
  have hl := bytes_len s
  rw [← List.drop_zero (l := bytes s), drop_step s 0 (by omega)]
  simp only [nameB, List.length_drop]
  rw [decide_eq_false (by omega)]; rfl
theorem name_fits {s : ByteArray} (h1 : 0 < s.size) (h2 : ¬ 15 < s.size) : nameB (bytes s) = (letterB s[0].toNat && nameRest ((bytes s).drop 1)) := by
  have hl := bytes_len s
  conv => lhs; rw [← List.drop_zero (l := bytes s), drop_step s 0 (by omega)]
  simp only [nameB, List.length_drop]
  rw [decide_eq_true (by omega)]; simp
theorem nameRest_step (s : ByteArray) (k : Nat) (h : k < s.size) : nameRest ((bytes s).drop k) = (nameC s[k].toNat && nameRest ((bytes s).drop (k + 1))) := by
  rw [drop_step s k h]; rfl

set_option maxRecDepth 4000 in
set_option maxHeartbeats 400000 in
theorem name_any (s : ByteArray) (w : World) : Calls Tryd.prog 30 #[.string s] w fun e w' => e = .returned (.bool (nameB (bytes s))) ∧ w = w' := by
  by_cases h1 : s.size < 1
  · have Hf := Lib.hid (name_short h1)
    go_enter Tryd.func30, Tryd.ntmps30
    go_wp2
    go_ret
    exact ⟨ret_bool Hf.out.symm, rfl⟩
  by_cases h2 : 15 < s.size
  · have Hf := Lib.hid (name_long h2)
    go_enter Tryd.func30, Tryd.ntmps30
    go_wp2
    go_ret
    exact ⟨ret_bool Hf.out.symm, rfl⟩
  have Hs := Lib.hid (name_fits (by omega) h2)
  have d1 : decide ((s.size : Int) < 1) = false := by simp; omega
  have d2 : decide ((15 : Int) < s.size) = false := by simp; omega
  cases hc : letterB s[0].toNat with
  | false =>
    go_enter Tryd.func30, Tryd.ntmps30
    go_wp2_with (first | (go_at_call 67; refine (letter_any _ _).mono ?_; rintro e w' ⟨rfl, rfl⟩))
    go_ret
    exact ⟨ret_bool (by rw [Hs.out, hc]; rfl), rfl⟩
  | true =>
    go_enter Tryd.func30, Tryd.ntmps30
    go_wp2_with (first | (go_at_call 67; refine (letter_any _ _).mono ?_; rintro e w' ⟨rfl, rfl⟩))
    go_loop [2, 3, 4] (fun _ i _ => ∃ k : Nat, 1 ≤ k ∧ k ≤ s.size ∧ i = .int .i64 k ∧ Hid (nameB (bytes s) = nameRest ((bytes s).drop k))) (fun _ i _ => s.size - (intOf i).toNat)
    case atStart => exact ⟨1, by omega, by omega, rfl, by rw [Hs.out, hc]; rfl⟩
    case round =>
      obtain ⟨k, hk1, hk, rfl, H⟩ := hrel
      by_cases hlt : k < s.size
      · have E := Lib.hid (nameRest_step s k hlt)
        go_wp2_with (first | (go_at_call 67; refine (letter_any _ _).mono ?_; rintro e w' ⟨rfl, rfl⟩) | (go_at_call 68; refine (digit_any _ _).mono ?_; rintro e w' ⟨rfl, rfl⟩))
        all_goals first
          | (go_round
             case rel => exact ⟨k + 1, by omega, by omega, by go_num, by rw [H.out, E.out, show nameC s[k].toNat = true from by (simp_all [nameC, bne])]; rfl⟩
             case measure => simp [intOf]; omega)
          | (go_ret; exact ⟨ret_bool (by rw [H.out, E.out, show nameC s[k].toNat = false from by (simp_all [nameC, bne])]; rfl), rfl⟩)
      · go_wp2_with fail
        go_ret
        exact ⟨ret_bool (by rw [H.out, drop_end s k hlt]; rfl), rfl⟩

set_option maxRecDepth 4000 in
set_option maxHeartbeats 400000 in
theorem rname_any (s : ByteArray) (w : World) : Calls Tryd.prog 34 #[.string s] w fun e w' => e = .returned (.bool (nameB (bytes s))) ∧ w = w' := by
  by_cases h1 : s.size < 1
  · have Hf := Lib.hid (name_short h1)
    go_enter Tryd.func34, Tryd.ntmps34
    go_wp2
    go_ret
    exact ⟨ret_bool Hf.out.symm, rfl⟩
  by_cases h2 : 15 < s.size
  · have Hf := Lib.hid (name_long h2)
    go_enter Tryd.func34, Tryd.ntmps34
    go_wp2
    go_ret
    exact ⟨ret_bool Hf.out.symm, rfl⟩
  have Hs := Lib.hid (name_fits (by omega) h2)
  have d1 : decide ((s.size : Int) < 1) = false := by simp; omega
  have d2 : decide ((15 : Int) < s.size) = false := by simp; omega
  cases hc : letterB s[0].toNat with
  | false =>
    go_enter Tryd.func34, Tryd.ntmps34
    go_wp2_with (first | (go_at_call 69; refine (rletter_any _ _).mono ?_; rintro e w' ⟨rfl, rfl⟩))
    go_ret
    exact ⟨ret_bool (by rw [Hs.out, hc]; rfl), rfl⟩
  | true =>
    go_enter Tryd.func34, Tryd.ntmps34
    go_wp2_with (first | (go_at_call 69; refine (rletter_any _ _).mono ?_; rintro e w' ⟨rfl, rfl⟩))
    go_loop [2, 3, 4] (fun _ i _ => ∃ k : Nat, 1 ≤ k ∧ k ≤ s.size ∧ i = .int .i64 k ∧ Hid (nameB (bytes s) = nameRest ((bytes s).drop k))) (fun _ i _ => s.size - (intOf i).toNat)
    case atStart => exact ⟨1, by omega, by omega, rfl, by rw [Hs.out, hc]; rfl⟩
    case round =>
      obtain ⟨k, hk1, hk, rfl, H⟩ := hrel
      by_cases hlt : k < s.size
      · have E := Lib.hid (nameRest_step s k hlt)
        go_wp2_with (first | (go_at_call 69; refine (rletter_any _ _).mono ?_; rintro e w' ⟨rfl, rfl⟩))
        all_goals first
          | (go_round
             case rel => exact ⟨k + 1, by omega, by omega, by go_num, by rw [H.out, E.out, show nameC s[k].toNat = true from by (simp_all [nameC, digitB, bne])]; rfl⟩
             case measure => simp [intOf]; omega)
          | (go_ret; exact ⟨ret_bool (by rw [H.out, E.out, show nameC s[k].toNat = false from by ((try simp_all [nameC, digitB, bne]) <;> omega)]; rfl), rfl⟩)
      · go_wp2_with fail
        go_ret
        exact ⟨ret_bool (by rw [H.out, drop_end s k hlt]; rfl), rfl⟩
end Go.Proofs.YtnhemjdmleilcaaDoor
