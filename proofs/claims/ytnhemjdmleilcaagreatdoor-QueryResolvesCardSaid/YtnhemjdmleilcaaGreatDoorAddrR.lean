/- The walks of the reference's functions on prefixes. Condition: addresses are numbers below 2^32. -/
import Derived.Test.YtnhemjdmleilcaaGreatDoorAddrA
namespace Go.Proofs.YtnhemjdmleilcaaGreatDoor
open Go.RowKit

theorem mk_step {k : Nat} (h : k < 32) : maskN (k : Int) ||| 2 ^ (31 - k) = maskN ((k + 1 : Nat) : Int) := by
  have c1 : clampN (k : Int) = k := by unfold clampN; omega
  have c2 : clampN ((k + 1 : Nat) : Int) = k + 1 := by unfold clampN; omega
  unfold maskN sz
  rw [c1, c2]
  have e1 : 2 ^ (32 - k) = 2 * 2 ^ (32 - (k + 1)) := by rw [← Nat.pow_succ']; congr 1; omega
  have e2 : 31 - k = 32 - (k + 1) := by omega
  have e3 : 4294967296 - 2 ^ (32 - k) = 2 ^ (32 - k) * (2 ^ k - 1) := by
    rw [Nat.mul_sub, ← Nat.pow_add, Nat.mul_one, show 32 - k + k = 32 from by omega]
  have hp : 0 < 2 ^ (32 - (k + 1)) := Nat.pow_pos (by omega)
  have hle : 2 ^ (32 - k) ≤ 2 ^ 32 := Nat.pow_le_pow_right (by omega) (by omega)
  have h32 : (2 : Nat) ^ 32 = 4294967296 := rfl
  rw [e2, e3, ← Nat.two_pow_add_eq_or_of_lt (by omega), ← e3]
  omega
theorem i_mk {k : Nat} (h : k < 32) : bits .or .u32 (maskN (k : Int) : Int) (2 ^ (31 - k) % 4294967296) = (maskN ((k + 1 : Nat) : Int) : Int) := by
  have hp : (2 : Nat) ^ (31 - k) < 4294967296 := by
    have : (2 : Nat) ^ (31 - k) ≤ 2 ^ 31 := Nat.pow_le_pow_right (by omega) (by omega)
    omega
  have e : ((2 : Int) ^ (31 - k) % 4294967296) = ((2 ^ (31 - k) : Nat) : Int) := by
    rw [show (2 : Int) ^ (31 - k) = ((2 ^ (31 - k) : Nat) : Int) from by rw [Int.natCast_pow]; rfl]
    generalize 2 ^ (31 - k) = x at *
    exact Int.emod_eq_of_lt (by omega) (by omega)
  rw [e, u32_or_nat _ _ (maskN_lt _) hp, mk_step h]
theorem mask_min {k : Nat} {n : Int} (h : (k : Int) < n) : maskN (min (k : Int) n) = maskN (k : Int) := by rw [Int.min_eq_left (by omega)]
theorem mask_min' {k : Nat} {n : Int} (h : ¬ (k : Int) < n) : maskN (min (k : Int) n) = maskN n := by rw [Int.min_eq_right (by omega)]
theorem mask_min32 (n : Int) : maskN (min ((32 : Nat) : Int) n) = maskN n := by unfold maskN sz clampN; congr 4; omega

set_option maxRecDepth 4000 in
set_option maxHeartbeats 400000 in
theorem rmask_any (n : Int) (w : World) : Calls Tryz.prog 91 #[.int .i64 n] w fun e w' => e = .returned (.int .u32 (maskN n : Int)) ∧ w = w' := by
  go_enter Tryz.func91, Tryz.ntmps91
  go_wp2_with fail
  go_loopg [3, 4] 32 (fun g m i wr => ∃ k v : Nat, k + g = 32 ∧ i = .int .i64 k ∧ m = .int .u32 (v : Int) ∧ wr = w ∧ Hid (v = maskN (min (k : Int) n)))
  case atStart => exact ⟨0, 0, by omega, rfl, rfl, rfl, Lib.hid (by unfold maskN sz clampN; rw [show (max 0 (min (min ((0 : Nat) : Int) n) 32)).toNat = 0 from by omega])⟩
  case round =>
    obtain ⟨k, v, hk, rfl, rfl, ew, H⟩ := hrel
    subst ew
    by_cases hlt : k < 32
    · by_cases hn : (k : Int) < n
      · have hv : v = maskN (k : Int) := by rw [H.out, mask_min hn]
        subst hv
        have E := i_mk hlt
        have HN : Hid (maskN ((k + 1 : Nat) : Int) = maskN (min ((k + 1 : Nat) : Int) n)) := Lib.hid (by rw [Int.min_eq_left (by omega)])
        go_wp2_with fail
        go_roundg (32 - (k + 1))
        case measure => omega
        case rel => exact ⟨k + 1, maskN ((k + 1 : Nat) : Int), by omega, by go_num, rfl, rfl, HN⟩
      · have HN : Hid (v = maskN (min ((k + 1 : Nat) : Int) n)) := Lib.hid (by rw [H.out, mask_min' hn, mask_min' (by omega)])
        go_wp2_with fail
        go_roundg (32 - (k + 1))
        case measure => omega
        case rel => exact ⟨k + 1, v, by omega, by go_num, rfl, rfl, HN⟩
    · have hk32 : k = 32 := by omega
      subst hk32
      have HV : Hid (v = maskN n) := Lib.hid (by rw [H.out, mask_min32])
      go_wp2_with fail
      go_ret
      exact ⟨ret_int (by rw [HV.out]), rfl⟩

set_option maxRecDepth 4000 in
set_option maxHeartbeats 400000 in
theorem rvalid_any (p : Nat) (n : Int) (w : World) (hp : p < 4294967296) : Calls Tryz.prog 53 #[PV p n] w fun e w' => e = .returned (.bool (validP p n)) ∧ Below w.heap.size w w' := by
  have hi := i_anot hp n
  unfold PV
  by_cases h0 : 0 ≤ n
  · by_cases h1 : n ≤ 32
    · have E : Hid ((((p % sz n : Nat) : Int) == 0) = validP p n) := Lib.hid (by unfold validP; simp only [h0, h1, decide_true, Bool.true_and]; rw [Bool.eq_iff_iff]; simp; omega)
      have d0 : decide (0 ≤ n) = true := by simp [h0]
      have d1 : decide (n ≤ 32) = true := by simp [h1]
      go_enter Tryz.func53, Tryz.ntmps53
      go_wp2_with fail
      go_quiet ((go_at_call 91; exact quiet_l (rmask_any _ _)))
      go_wp2_with fail
      go_ret
      exact ⟨ret_bool E.out, box_below _ _ _⟩
    · have E : Hid (validP p n = false) := Lib.hid (by unfold validP; simp [h1])
      have d0 : decide (0 ≤ n) = true := by simp [h0]
      have d1 : decide (n ≤ 32) = false := by simp; omega
      clear hi
      go_enter Tryz.func53, Tryz.ntmps53
      go_wp2_with fail
      go_quiet (fail)
      go_wp2_with fail
      go_ret
      exact ⟨ret_bool E.out.symm, box_below _ _ _⟩
  · have E : Hid (validP p n = false) := Lib.hid (by unfold validP; simp [h0])
    have d0 : decide (0 ≤ n) = false := by simp; omega
    clear hi
    go_enter Tryz.func53, Tryz.ntmps53
    go_wp2_with fail
    go_quiet (fail)
    go_wp2_with fail
    go_ret
    exact ⟨ret_bool E.out.symm, box_below _ _ _⟩


theorem Tryz.pfxGuard : Tryz.prog.eqGuardType Tryz.prog.depth 27 = false := by kernel_rfl
theorem Tryz.pfxStood : Tryz.prog.stoodInHeld 27 = false := by kernel_rfl
theorem pfx_eql (p q : Nat) (n m : Int) (w : World) : (binOp .eql 27 (.agg #[.int .u32 (p : Int), .int .i64 n]) (.agg #[.int .u32 (q : Int), .int .i64 m])).run Tryz.prog w = .ok (.bool (decide (p = q ∧ n = m))) w := by
  have hp := Tryz.pfxStood
  by_cases h1 : p = q
  · subst h1
    by_cases h2 : n = m
    · subst h2
      simp [go_sem, hp]
    · have h3 : (n == m) = false := by simp [h2]
      simp [go_sem, hp, h2, h3]
  · have h2 : ((p : Int) == (q : Int)) = false := by simp; omega
    simp [go_sem, hp, h1, h2]
theorem pfx_neq (p q : Nat) (n m : Int) (w : World) : (binOp .neq 27 (.agg #[.int .u32 (p : Int), .int .i64 n]) (.agg #[.int .u32 (q : Int), .int .i64 m])).run Tryz.prog w = .ok (.bool (!decide (p = q ∧ n = m))) w := by
  have hp := Tryz.pfxStood
  by_cases h1 : p = q
  · subst h1
    by_cases h2 : n = m
    · subst h2
      simp [go_sem, hp]
    · have h3 : (n == m) = false := by simp [h2]
      simp [go_sem, hp, h2, h3]
  · have h2 : ((p : Int) == (q : Int)) = false := by simp; omega
    simp [go_sem, hp, h1, h2]
end Go.Proofs.YtnhemjdmleilcaaGreatDoor
