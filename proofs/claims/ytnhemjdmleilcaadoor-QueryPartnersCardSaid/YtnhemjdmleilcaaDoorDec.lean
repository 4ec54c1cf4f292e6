/- The decimal form of a number: the reference's Decimal computes it, and Number reads it back. Condition: the number is not negative (and an int). -/
import Derived.Test.YtnhemjdmleilcaaDoorScanE
namespace Go.Proofs.YtnhemjdmleilcaaDoor
open Go.RowKit

def digC (n : Nat) : UInt8 := UInt8.ofNat (48 + n)
theorem digC_toNat (n : Nat) (h : n < 10) : (digC n).toNat = 48 + n := by
  unfold digC; rw [UInt8.toNat_ofNat']; omega
def dec (n : Nat) : List UInt8 := if n < 10 then [digC n] else dec (n / 10) ++ [digC (n % 10)]
termination_by n
theorem dec_small {n : Nat} (h : n < 10) : dec n = [digC n] := by rw [dec, if_pos h]
theorem dec_big {n : Nat} (h : ¬ n < 10) : dec n = dec (n / 10) ++ [digC (n % 10)] := by rw [dec, if_neg h]

theorem numGo_snoc (b : UInt8) : ∀ (l : List UInt8) (v : Int), numGo v (l ++ [b]) = (numGo v l).bind fun u => if digitB b.toNat then some (u * 10 + (b.toNat - 48)) else none := by
  intro l
  induction l with
  | nil => intro v; simp only [List.nil_append, numGo, Option.bind_some]
  | cons c r ih =>
    intro v
    simp only [List.cons_append, numGo]
    split
    · exact ih _
    · rfl
theorem digC_digit {n : Nat} (h : n < 10) : digitB (digC n).toNat = true := by
  rw [digC_toNat n h]; simp [digitB]; omega
theorem numGo_dec (n : Nat) : numGo 0 (dec n) = some (n : Int) := by
  induction n using Nat.strongRecOn with
  | ind n ih =>
    by_cases h : n < 10
    · rw [dec_small h, numGo, digC_digit h, digC_toNat n h]
      simp [numGo]; omega
    · have hm : n % 10 < 10 := Nat.mod_lt _ (by omega)
      rw [dec_big h, numGo_snoc, ih (n / 10) (by omega), digC_digit hm, digC_toNat _ hm]
      simp; omega
theorem dec_len : ∀ (k n : Nat), n < 10 ^ (k + 1) → (dec n).length ≤ k + 1 := by
  intro k
  induction k with
  | zero => intro n h; rw [dec_small (by simpa using h)]; simp
  | succ k ih =>
    intro n h
    by_cases h9 : n < 10
    · rw [dec_small h9]; simp
    · rw [dec_big h9]
      have := ih (n / 10) (by rw [Nat.pow_succ] at h; omega)
      simp; omega
theorem dec_pos (n : Nat) : dec n ≠ [] := by
  by_cases h : n < 10
  · rw [dec_small h]; simp
  · rw [dec_big h]; simp
theorem dec_head (n : Nat) (h : 0 < n) : ∃ c r, dec n = c :: r ∧ c.toNat ≠ 48 := by
  induction n using Nat.strongRecOn with
  | ind n ih =>
    by_cases h9 : n < 10
    · exact ⟨digC n, [], dec_small h9, by rw [digC_toNat n h9]; omega⟩
    · obtain ⟨c, r, e, hc⟩ := ih (n / 10) (by omega) (by omega)
      exact ⟨c, r ++ [digC (n % 10)], by rw [dec_big h9, e]; rfl, hc⟩
theorem numForm_dec (n : Nat) (h : n ≤ 9999999999) : numForm (dec n) = true := by
  have hl := dec_len 9 n (by omega)
  rcases Nat.eq_zero_or_pos n with h0 | h0
  · subst h0; rw [dec_small (by omega)]; rfl
  · obtain ⟨c, r, e, hc⟩ := dec_head n h0
    rw [e] at hl ⊢
    cases r with
    | nil => rfl
    | cons d r =>
      simp only [numForm]
      rw [decide_eq_true (by simpa using hl)]
      have : ((c.toNat : Int) == 48) = false := by simp; omega
      rw [this]; rfl
theorem numOf_dec (n : Nat) (h : n ≤ 9999999999) : numOf (dec n) = some (n : Int) := by
  unfold numOf; rw [numForm_dec n h, if_pos rfl, numGo_dec]
theorem numOf_zero (n : Nat) : numOf (48 :: dec n) = none := by
  unfold numOf
  have : numForm (48 :: dec n) = false := by
    cases h : dec n with
    | nil => exact absurd h (dec_pos n)
    | cons c r => simp [numForm]
  rw [this]; rfl

theorem dig_ext : ∀ n : Nat, n < 10 → ByteArray.extract ⟨#[48, 49, 50, 51, 52, 53, 54, 55, 56, 57]⟩ n (n + 1) = str [digC n] := by decide +kernel
theorem str_app (a b : List UInt8) : str a ++ str b = str (a ++ b) := by
  apply ByteArray.ext
  simp [str, ByteArray.data_append]

set_option maxRecDepth 4000 in
set_option maxHeartbeats 400000 in
theorem decimal_any (n : Nat) : ∀ (w : World), n ≤ 9223372036854775807 → Calls Tryd.prog 59 #[.int .i64 n] w fun e w' => e = .returned (.string (str (dec n))) ∧ w = w' := by
  induction n using Nat.strongRecOn with
  | ind n ih =>
    intro w hn
    have IH := Lib.hid ih
    clear ih
    have hd := Nat.mod_lt n (show 0 < 10 by omega)
    by_cases h9 : n < 10
    · have E := Lib.hid (dec_small h9)
      go_enter Tryd.func59, Tryd.ntmps59
      go_wp2_with fail
      go_ret
      exact ⟨by rw [E.out, Nat.mod_eq_of_lt h9, dig_ext n h9]; rfl, rfl⟩
    · have E := Lib.hid (dec_big h9)
      go_enter Tryd.func59, Tryd.ntmps59
      go_wp2_with fail
      rw [show ((n : Int) / 10) = ((n / 10 : Nat) : Int) from by omega]
      refine (IH.out (n / 10) (by omega) _ (by omega)).mono ?_
      rintro e w' ⟨rfl, rfl⟩
      rw [dig_ext (n % 10) hd]
      have hs : (str (dec (n / 10))).size ≤ 19 := by rw [str_size]; exact dec_len 18 (n / 10) (by omega)
      have hs1 : (str [digC (n % 10)]).size = 1 := str_size _
      go_wp2_with fail
      go_ret
      exact ⟨by rw [E.out, str_app]; rfl, rfl⟩
end Go.Proofs.YtnhemjdmleilcaaDoor
