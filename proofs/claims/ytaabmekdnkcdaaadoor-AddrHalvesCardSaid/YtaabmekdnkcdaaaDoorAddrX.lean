/- The halves of a prefix, in plain words. No condition. -/
import Derived.Test.YtaabmekdnkcdaaaDoorAddrJ
namespace Go.Proofs.YtaabmekdnkcdaaaDoor

theorem sz_half {n : Int} (h0 : 0 ≤ n) (h : n < 32) : sz n = 2 * sz (n + 1) := by
  unfold sz
  rw [show 32 - clampN n = (32 - clampN (n + 1)) + 1 from by unfold clampN; omega, Nat.pow_succ, Nat.mul_comm]
theorem or_sz {p : Nat} {n : Int} {b : Nat} (h : p % sz n = 0) (hb : b < sz n) : p ||| b = p + b := by
  obtain ⟨t, rfl⟩ := Nat.dvd_of_mod_eq_zero h
  have := @Nat.two_pow_add_eq_or_of_lt (32 - clampN n) b hb t
  exact this.symm
theorem last_valid {p : Nat} {n : Int} (h : p % sz n = 0) : lastP p n = p + (sz n - 1) := by
  unfold lastP
  exact or_sz h (by have := sz_pos n; omega)
theorem valid_parts {p : Nat} {n : Int} (h : validP p n = true) : 0 ≤ n ∧ n ≤ 32 ∧ p % sz n = 0 := by
  unfold validP at h
  simp only [Bool.and_eq_true, decide_eq_true_eq] at h
  exact ⟨h.1.1, h.1.2, h.2⟩
theorem half_add {p : Nat} {n : Int} (h0 : 0 ≤ n) (h1 : n < 32) (h : p % sz n = 0) : halfP p n = p + sz (n + 1) := by
  unfold halfP
  have := sz_half h0 h1
  have := sz_pos (n + 1)
  exact or_sz h (by omega)
theorem cont_iff {p : Nat} {n : Int} {x : Nat} : contP p n x = decide (x / sz n * sz n = p) := rfl
theorem halves_facts {p : Nat} {n : Int} (x : Nat) (hv : validP p n = true) (h1 : n < 32) :
    validP p (n + 1) = true ∧ validP (halfP p n) (n + 1) = true ∧ lastP (halfP p n) (n + 1) = lastP p n ∧ halfP p n = lastP p (n + 1) + 1 ∧ contP p n x = (contP p (n + 1) x || contP (halfP p n) (n + 1) x) ∧ overP p (n + 1) (halfP p n) (n + 1) = false := by
  obtain ⟨h0, _, hm⟩ := valid_parts hv
  have hz := sz_half h0 h1
  have hs := sz_pos (n + 1)
  have hh := half_add h0 h1 hm
  have hl := last_valid hm
  obtain ⟨t, ht⟩ := Nat.dvd_of_mod_eq_zero hm
  rw [hz] at ht
  generalize es : sz (n + 1) = s at *
  have hm1 : p % sz (n + 1) = 0 := by rw [es, ht, Nat.mul_assoc, Nat.mul_comm s t, ← Nat.mul_assoc]; exact Nat.mul_mod_left _ _
  have hm2 : halfP p n % sz (n + 1) = 0 := by rw [hh, es, Nat.add_mod_right, ← es]; exact hm1
  have hl1 := last_valid hm1
  have hl2 := last_valid hm2
  rw [es] at hl1 hl2 hm1 hm2
  have q1 : p = 2 * t * s := by rw [ht]; rw [Nat.mul_assoc, Nat.mul_comm s t, ← Nat.mul_assoc]
  have q2 : halfP p n = (2 * t + 1) * s := by rw [hh, q1, Nat.add_mul, Nat.one_mul]
  refine ⟨?_, ?_, ?_, ?_, ?_, ?_⟩
  · unfold validP; rw [es, hm1]; simp; omega
  · unfold validP; rw [es, hm2]; simp; omega
  · rw [hl2, hl, hh, hz]; omega
  · rw [hl1, hh]; omega
  · rw [cont_iff, cont_iff, cont_iff, hz, es, q2]
    have e1 : x / (2 * s) = x / s / 2 := by rw [Nat.mul_comm, Nat.div_div_eq_div_mul]
    have e2 : x / s / 2 * (2 * s) = 2 * (x / s / 2) * s := by rw [← Nat.mul_assoc, Nat.mul_comm _ 2]
    rw [e1, e2, Bool.eq_iff_iff]
    rw [Bool.or_eq_true, decide_eq_true_eq, decide_eq_true_eq, decide_eq_true_eq, q1, Nat.mul_right_cancel_iff hs, Nat.mul_right_cancel_iff hs, Nat.mul_right_cancel_iff hs]
    omega
  · unfold overP covP
    rw [cont_iff, cont_iff, es, Nat.div_mul_cancel (Nat.dvd_of_mod_eq_zero hm1), Nat.div_mul_cancel (Nat.dvd_of_mod_eq_zero hm2), hh]
    have a1 : ¬ p + s = p := by omega
    have a2 : ¬ p = p + s := by omega
    simp; omega
theorem last32 (p : Nat) : lastP p 32 = p := by
  have : sz 32 = 1 := by decide
  unfold lastP; rw [this]; simp
end Go.Proofs.YtaabmekdnkcdaaaDoor
