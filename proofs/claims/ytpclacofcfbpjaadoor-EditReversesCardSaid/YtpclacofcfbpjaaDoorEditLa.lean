/- The plain law behind EditLines. No condition. -/
import Derived.Test.YtpclacofcfbpjaaDoorEditZ
import Derived.Test.YtpclacofcfbpjaaDoorEditV
namespace Go.Proofs.YtpclacofcfbpjaaDoor
open Go.RowKit

theorem apply_zero {ts : List (List UInt8)} {es : List Ed} (h : applyErr ts es = 0) : splitErr ts = 0 ∧ es.length ≤ 24 ∧ checksErr (splitOf ts) [] es = 0 := by
  unfold applyErr at h
  split at h
  · next h0 =>
    split at h
    · cases h
    · next h1 => exact ⟨h0, by omega, h⟩
  · contradiction
theorem apply_nil {ts : List (List UInt8)} (h : splitErr ts = 0) : applyErr ts [] = 0 := by
  unfold applyErr; rw [if_pos h]; rfl
theorem okay_of {ts : List (List UInt8)} {es : List Ed} (h : applyErr ts es = 0) {i : Nat} (hi : i < ts.length) : ∀ j (hj : j < es.length), es[j].cfg = (i : Int) → Okay (linesOf ts[i]) (es.take j) es[j] := by
  intro j hj hc
  have h1 := checks_all es [] (apply_zero h).2.2 j hj
  obtain ⟨_, ls, hls, ho⟩ := check_zero h1
  rw [hc] at hls
  simp only [Int.toNat_natCast] at hls
  unfold splitOf at hls
  rw [List.getElem?_map, List.getElem?_eq_getElem hi] at hls
  injection hls with hls
  subst hls
  exact ho
theorem out_len {ts : List (List UInt8)} {es : List Ed} (h : applyErr ts es = 0) : (applyOf ts es).length = ts.length := by
  unfold applyOf; rw [if_pos h, rwAll_len]; simp [splitOf]
theorem out_get {ts : List (List UInt8)} {es : List Ed} (h : applyErr ts es = 0) {i : Nat} (hi : i < ts.length) : (applyOf ts es)[i]? = some (rewriteOf (linesOf ts[i]) es (i : Int)) := by
  unfold applyOf
  rw [if_pos h]
  have hl : i < (splitOf ts).length := by simpa [splitOf] using hi
  have := rwAll_get (splitOf ts) es 0 i hl
  rw [Nat.zero_add] at this
  rw [this]
  simp [splitOf]
theorem print_of {ts : List (List UInt8)} {es : List Ed} (h : applyErr ts es = 0) {i : Nat} (hi : i < ts.length) : ∀ x ∈ es, x.cfg = (i : Int) → printB x.text = true := by
  intro x hx hc
  obtain ⟨j, hj, rfl⟩ := List.getElem_of_mem hx
  exact (okay_of h hi j hj hc).pr
theorem short_1500 {ts : List (List UInt8)} (h : shortB ts = true) {i : Nat} (hi : i < ts.length) (he : linesErr ts[i] = 0) : ts[i].length ≤ 1500 := by
  unfold shortB at h
  rw [Bool.and_eq_true, List.all_eq_true] at h
  have := h.1 _ (List.getElem_mem hi)
  unfold shortT at this
  simp only [Bool.or_eq_true, decide_eq_true_eq] at this
  rcases this with h1 | h1
  · exact h1
  · unfold linesErr at he
    rw [if_pos h1] at he
    cases he
/-- What EditLines reads at place i. -/
structure LinesAt (ts : List (List UInt8)) (es : List Ed) (i : Nat) (t : List UInt8) : Prop where
  e0 : linesErr t = 0
  e1 : linesErr (rewriteOf (linesOf t) es i) = 0
  e2 : linesErr (rewriteOf (linesOf t) [] i) = 0
  l1 : ((linesOf (rewriteOf (linesOf t) es i)).length : Int) = (linesOf t).length + (es.map (deltaOf i)).sum
  l2 : linesOf (rewriteOf (linesOf t) [] i) = linesOf t
theorem lines_at {ts : List (List UInt8)} {es : List Ed} (h : applyErr ts es = 0) (hs : shortB ts = true) (ht : ∀ x ∈ es, x.text.length ≤ 200) {i : Nat} (hi : i < ts.length) : LinesAt ts es i ts[i] := by
  obtain ⟨h0, h24, _⟩ := apply_zero h
  have he := split_zero h0 ts[i] (List.getElem_mem hi)
  have hl := short_1500 hs hi he
  obtain ⟨a1, a2⟩ := edited_lines (cfg := i) he hl h24 ht (print_of h hi)
  obtain ⟨b1, b2⟩ := edited_lines (es := []) (cfg := i) he hl (by simp) (by simp) (by simp)
  exact ⟨he, a1, b1, by rw [a2]; exact cnt_all (okay_of h hi), by rw [b2, ln_nil]⟩
theorem Sl.form' {w : World} {B n : Nat} {v : Value} {ls : List (List UInt8)} (h : Sl w B v ls) (hl : ls.length = n) : ∃ A c, v = .slice A n c ∧ n ≤ c ∧ Slc w B 1 (.slice A n c) n (ls.map strV) := by
  subst hl
  obtain ⟨A, c, rfl, h1, h2⟩ := h
  exact ⟨A, c, rfl, h1, h2⟩
theorem EL.nil {w : World} {B : Nat} : EL w B (.slice none 0 0) [] := ⟨none, 0, rfl, by simp, Slc.nil⟩
theorem delta_take {es : List Ed} {cfg : Int} {k : Nat} (h : k < es.length) : ((es.take (k + 1)).map (deltaOf cfg)).sum = ((es.take k).map (deltaOf cfg)).sum + deltaOf cfg es[k] := by
  rw [List.take_succ_eq_append_getElem h, List.map_append, List.sum_append]; simp
theorem delta_bd {cfg : Int} : ∀ (es : List Ed), -(es.length : Int) ≤ (es.map (deltaOf cfg)).sum ∧ (es.map (deltaOf cfg)).sum ≤ es.length := by
  intro es
  induction es with
  | nil => simp
  | cons x r ih =>
    have : -1 ≤ deltaOf cfg x ∧ deltaOf cfg x ≤ 1 := by
      unfold deltaOf
      split
      · split
        · omega
        · split <;> omega
      · omega
    simp only [List.map_cons, List.sum_cons, List.length_cons]
    omega
end Go.Proofs.YtpclacofcfbpjaaDoor
