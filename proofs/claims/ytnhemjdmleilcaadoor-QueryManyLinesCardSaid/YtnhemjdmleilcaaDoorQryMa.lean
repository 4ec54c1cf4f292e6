/- What ParseAll reads out of the texts of valid queries with gaps between them: plain Lean. No condition. -/
import Derived.Test.YtnhemjdmleilcaaDoorQryT
import Derived.Test.YtnhemjdmleilcaaDoorQryX
namespace Go.Proofs.YtnhemjdmleilcaaDoor
open Go.RowKit

def cmtL : List UInt8 := [32, 35, 32, 97, 32, 99, 111, 109, 109, 101, 110, 116]
/-- The lines of a gap. -/
def gapR (g : Int) : List (List UInt8) := if g % 3 = 0 then [] else if g % 3 = 1 then [[]] else [cmtL]
def rowsQ (ps : List (Qr × Int)) : List (List UInt8) := ps.flatMap fun x => gapR x.2 ++ [fmtQ x.1]
def textR (rs : List (List UInt8)) : List UInt8 := rs.flatMap fun r => r ++ [10]
def textQ (ps : List (Qr × Int)) : List UInt8 := textR (rowsQ ps)
/-- The number of the ninth query's line; 0: there is none. -/
def ninthQ (ps : List (Qr × Int)) : Nat := if 8 < ps.length then (rowsQ (ps.take 9)).length else 0
theorem rowsQ_app (a b : List (Qr × Int)) : rowsQ (a ++ b) = rowsQ a ++ rowsQ b := by simp [rowsQ]
theorem textR_app (a b : List (List UInt8)) : textR (a ++ b) = textR a ++ textR b := by simp [textR]
theorem rowsQ_one (x : Qr × Int) : rowsQ [x] = gapR x.2 ++ [fmtQ x.1] := by simp [rowsQ]
theorem textQ_snoc (ps : List (Qr × Int)) (x : Qr × Int) : textQ (ps ++ [x]) = textQ ps ++ (textR (gapR x.2) ++ (fmtQ x.1 ++ [10])) := by
  unfold textQ; rw [rowsQ_app, rowsQ_one, textR_app, textR_app]; simp [textR]
theorem rowsLen_snoc (ps : List (Qr × Int)) (x : Qr × Int) : (rowsQ (ps ++ [x])).length = (rowsQ ps).length + ((gapR x.2).length + 1) := by
  rw [rowsQ_app, rowsQ_one]; simp
theorem lines_run (r : List UInt8) : ∀ (x cur : List UInt8), (∀ b ∈ x, (b.toNat : Int) ≠ 10) → linesGo cur (x ++ r) = linesGo (cur ++ x) r := by
  intro x
  induction x with
  | nil => intro cur _; simp
  | cons b t ih =>
    intro cur h
    rw [List.cons_append, linesGo, if_neg (h b List.mem_cons_self), ih _ (fun c hc => h c (List.mem_cons_of_mem _ hc))]
    simp
theorem lines_textR : ∀ rs : List (List UInt8), (∀ r ∈ rs, ∀ b ∈ r, (b.toNat : Int) ≠ 10) → linesOf (textR rs) = rs := by
  intro rs
  induction rs with
  | nil => intro _; rfl
  | cons r t ih =>
    intro h
    have e : textR (r :: t) = r ++ (10 :: textR t) := by simp [textR]
    rw [e, linesOf, lines_run _ _ _ (h r List.mem_cons_self), linesGo, if_pos (by rfl)]
    have := ih (fun x hx => h x (List.mem_cons_of_mem _ hx))
    unfold linesOf at this
    rw [this]
    simp
/-- The rows of valid queries. -/
def okQs (ps : List (Qr × Int)) : Prop := ∀ x ∈ ps, validE x.1 = 0 ∧ x.1.fit
theorem fmtQ_ok {q : Qr} (h : validE q = 0) : fmtQ q = fm8 q := by unfold fmtQ; rw [if_pos h]
theorem gap_bytes (g : Int) : ∀ r ∈ gapR g, ∀ b ∈ r, 32 ≤ b.toNat ∧ b.toNat ≤ 126 := by
  unfold gapR
  intro r hr b hb
  split at hr
  · cases hr
  · split at hr
    · obtain rfl := List.mem_singleton.1 hr; cases hb
    · obtain rfl := List.mem_singleton.1 hr
      simp only [cmtL, List.mem_cons, List.not_mem_nil, or_false] at hb
      rcases hb with rfl | rfl | rfl | rfl | rfl | rfl | rfl | rfl | rfl | rfl | rfl | rfl <;> decide
theorem rows_bytes {ps : List (Qr × Int)} (h : okQs ps) : ∀ r ∈ rowsQ ps, ∀ b ∈ r, 32 ≤ b.toNat ∧ b.toNat ≤ 126 := by
  intro r hr b hb
  unfold rowsQ at hr
  obtain ⟨x, hx, hr⟩ := List.mem_flatMap.1 hr
  rcases List.mem_append.1 hr with hr | hr
  · exact gap_bytes _ r hr b hb
  · obtain rfl := List.mem_singleton.1 hr
    rw [fmtQ_ok (h x hx).1] at hb
    exact fmt_bytes_ok (okq (h x hx).1) b hb
theorem gap_len (g : Int) : (textR (gapR g)).length ≤ 13 ∧ (gapR g).length ≤ 1 := by
  unfold gapR
  split
  · exact ⟨by decide, by decide⟩
  · split <;> exact ⟨by decide, by decide⟩
theorem fmtQ_len (q : Qr) : (fmtQ q).length ≤ 800 := by
  unfold fmtQ
  split
  · next h => exact fm8_len (okq h)
  · simp
theorem text_len : ∀ ps : List (Qr × Int), (textQ ps).length ≤ 820 * ps.length := by
  intro ps
  induction ps with
  | nil => exact Nat.le_refl _
  | cons x r ih =>
    have e : textQ (x :: r) = textR (gapR x.2) ++ (fmtQ x.1 ++ [10]) ++ textQ r := by
      unfold textQ
      rw [show x :: r = [x] ++ r from rfl, rowsQ_app, rowsQ_one, textR_app, textR_app]
      simp [textR]
    have h1 := (gap_len x.2).1
    have h2 := fmtQ_len x.1
    rw [e]
    simp only [List.length_append, List.length_cons, List.length_nil] at ih ⊢
    omega
theorem text_lines {ps : List (Qr × Int)} (h : okQs ps) (hl : ps.length ≤ 12) : linesErr (textQ ps) = 0 ∧ linesOf (textQ ps) = rowsQ ps := by
  refine ⟨?_, lines_textR _ (fun r hr b hb => by have := rows_bytes h r hr b hb; omega)⟩
  unfold linesErr
  have := text_len ps
  rw [if_neg (by omega), if_pos]
  unfold validAll
  rw [List.all_eq_true]
  intro b hb
  unfold textQ textR at hb
  obtain ⟨r, hr, hb⟩ := List.mem_flatMap.1 hb
  rcases List.mem_append.1 hb with hb | hb
  · have := rows_bytes h r hr b hb
    unfold validC
    simp only [Bool.or_eq_true, Bool.and_eq_true, decide_eq_true_eq]
    omega
  · obtain rfl := List.mem_singleton.1 hb
    decide
theorem all_gap (g : Int) (r : List (List UInt8)) (i : Nat) (acc : List Qr) : allOf (gapR g ++ r) i acc = allOf r (i + (gapR g).length) acc := by
  unfold gapR
  split
  · rfl
  · split
    · rw [List.singleton_append, allOf, if_pos (by decide)]; rfl
    · rw [List.singleton_append, allOf, if_pos (by decide)]; rfl
theorem all_rows : ∀ (ps : List (Qr × Int)) (i : Nat) (acc : List Qr), okQs ps → acc.length ≤ 8 →
    allOf (rowsQ ps) i acc = if acc.length + ps.length ≤ 8 then (acc ++ ps.map Prod.fst, i + (rowsQ ps).length, 0) else ([], i + (rowsQ (ps.take (9 - acc.length))).length, 7) := by
  intro ps
  induction ps with
  | nil =>
    intro i acc _ h8
    rw [if_pos (by simpa using h8)]
    simp [rowsQ, allOf]
  | cons x r ih =>
    intro i acc hok h8
    obtain ⟨hv, hf⟩ := hok x List.mem_cons_self
    have hr : okQs r := fun y hy => hok y (List.mem_cons_of_mem _ hy)
    have e : rowsQ (x :: r) = gapR x.2 ++ (fmtQ x.1 :: rowsQ r) := by simp [rowsQ]
    have e2 : ∀ k, rowsQ ((x :: r).take (k + 1)) = gapR x.2 ++ (fmtQ x.1 :: rowsQ (r.take k)) := fun k => by simp [rowsQ]
    have hfd : fieldsOf 35 (fmtQ x.1) ≠ [] := by rw [fmtQ_ok hv, fmt_fields (okq hv)]; simp
    obtain ⟨hp, hq⟩ := read_back hv hf
    rw [e, all_gap, allOf, if_neg hfd]
    by_cases h : acc.length = 8
    · rw [if_pos h, if_neg (by rw [h]; simp), show 9 - acc.length = 0 + 1 from by omega, e2]
      simp [rowsQ]
      omega
    · rw [if_neg h, if_neg (by rw [hp]; simp), ih _ _ hr (by simp; omega), hq]
      by_cases h2 : acc.length + (x :: r).length ≤ 8
      · rw [if_pos (by simp only [List.length_append, List.length_cons, List.length_nil] at h2 ⊢; omega), if_pos h2]
        simp
        omega
      · rw [if_neg (by simp only [List.length_append, List.length_cons, List.length_nil] at h2 ⊢; omega), if_neg h2, show 9 - acc.length = (9 - (acc ++ [x.1]).length) + 1 from by simp only [List.length_append, List.length_cons, List.length_nil]; omega, e2]
        simp
        omega
/-- What ParseAll returns for the texts of valid queries. -/
theorem all_text {ps : List (Qr × Int)} (h : okQs ps) (hl : ps.length ≤ 12) :
    allR (textQ ps) = if ps.length ≤ 8 then (ps.map Prod.fst, (rowsQ ps).length, 0) else ([], (rowsQ (ps.take 9)).length, 7) := by
  obtain ⟨h1, h2⟩ := text_lines h hl
  unfold allR
  rw [if_neg (by rw [h1]; simp), h2, all_rows ps 0 [] h (by simp)]
  simp
theorem okQs_snoc {ps : List (Qr × Int)} {x : Qr × Int} (h : okQs ps) (hx : validE x.1 = 0) (hf : x.1.fit) : okQs (ps ++ [x]) := fun y hy => by
  rcases List.mem_append.1 hy with hy | hy
  · exact h y hy
  · obtain rfl := List.mem_singleton.1 hy; exact ⟨hx, hf⟩
theorem rows_pos {ps : List (Qr × Int)} (h : 8 < ps.length) : 0 < (rowsQ (ps.take 9)).length := by
  cases ps with
  | nil => simp at h
  | cons x r => rw [List.take_succ_cons]; simp [rowsQ]; omega
theorem rows_len13 : ∀ ps : List (Qr × Int), (rowsQ ps).length ≤ 2 * ps.length := by
  intro ps
  induction ps with
  | nil => exact Nat.le_refl _
  | cons x r ih =>
    have := (gap_len x.2).2
    rw [show x :: r = [x] ++ r from rfl, rowsQ_app, rowsQ_one]
    simp only [List.length_append, List.length_cons, List.length_nil] at ih ⊢
    omega
end Go.Proofs.YtnhemjdmleilcaaDoor
