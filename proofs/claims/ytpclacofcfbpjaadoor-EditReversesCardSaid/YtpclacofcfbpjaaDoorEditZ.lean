/- Plain laws on accepted edits: the text after them is read back as its lines. No condition. -/
import Derived.Test.YtpclacofcfbpjaaDoorEditX
namespace Go.Proofs.YtpclacofcfbpjaaDoor
open Go.RowKit

theorem printB_app (a b : List UInt8) : printB (a ++ b) = (printB a && printB b) := by simp [printB]
theorem printB_take {l : List UInt8} (n : Nat) (h : printB l = true) : printB (l.take n) = true := by
  unfold printB at *
  rw [List.all_eq_true] at *
  exact fun x hx => h x (List.mem_of_mem_take hx)
theorem printB_drop {l : List UInt8} (n : Nat) (h : printB l = true) : printB (l.drop n) = true := by
  unfold printB at *
  rw [List.all_eq_true] at *
  exact fun x hx => h x (List.mem_of_mem_drop hx)
theorem opp_print (ls : List (List UInt8)) (x : List UInt8) : printB (oppOf ls x) = true := by
  have hr : ∀ l, printB (refusalGo l) = true := by
    intro l
    induction l with
    | nil => decide
    | cons a r ih =>
      simp only [refusalGo]
      split
      · exact ih
      · split
        · decide
        · split
          · decide
          · exact ih
  unfold oppOf
  split
  · decide
  · split
    · decide
    · split
      · exact hr _
      · decide
theorem flip_at {ls : List (List UInt8)} {k : Nat} {r : List UInt8} (h : flipI ls k = some r) : ∃ s, ls[k]? = some s ∧ ∃ p x, actsOf s = [(p, x)] ∧ r = s.take p ++ oppOf (ls.take (k + 1)) x ++ s.drop (p + x.length) := by
  unfold flipI at h
  rw [if_neg (by omega)] at h
  simp only [Int.toNat_natCast] at h
  unfold flipOf at h
  split at h
  · cases h
  · next s hs =>
    refine ⟨s, hs, ?_⟩
    unfold flipLine at h
    split at h
    · next p x hp =>
      injection h with h
      exact ⟨p, x, hp, h.symm⟩
    · cases h
theorem flip_print {ls : List (List UInt8)} {k : Nat} (hl : ∀ l ∈ ls, printB l = true) : printB ((flipI ls k).getD []) = true := by
  cases hf : flipI ls k with
  | none => rfl
  | some r =>
    obtain ⟨s, hs, p, x, _, rfl⟩ := flip_at hf
    have h1 := hl s (List.mem_of_getElem? hs)
    simp only [Option.getD_some]
    rw [printB_app, printB_app, printB_take p h1, printB_drop _ h1, opp_print]; rfl
theorem flip_len_at {ls : List (List UInt8)} {k : Nat} : ((flipI ls k).getD []).length ≤ (ls.getD k []).length + 7 := by
  cases hf : flipI ls k with
  | none => simp
  | some r =>
    obtain ⟨s, hs, p, x, _, rfl⟩ := flip_at hf
    have h1 := opp_len (ls.take (k + 1)) x
    rw [List.getD_eq_getElem?_getD, hs]
    simp only [Option.getD_some, List.length_append, List.length_take, List.length_drop]
    omega
theorem fold_line {ls : List (List UInt8)} {cfg : Int} {k : Nat} (P : List UInt8 → Prop) (hf : P ((flipI ls k).getD [])) : ∀ (es : List Ed) (s : LnSt), P s.line → P (es.foldl (lnStep ls cfg k) s).line := by
  intro es
  induction es with
  | nil => intro s h; exact h
  | cons x r ih =>
    intro s h
    refine ih _ ?_
    unfold lnStep
    split
    · exact h
    · split
      · exact h
      · split
        · exact hf
        · split <;> exact h
theorem fold_outs {ls : List (List UInt8)} {cfg : Int} {k : Nat} (P : List UInt8 → Prop) : ∀ (es : List Ed) (s : LnSt), (∀ x ∈ es, x.cfg = cfg → P x.text) → (∀ l ∈ s.outs, P l) → ∀ l ∈ (es.foldl (lnStep ls cfg k) s).outs, P l := by
  intro es
  induction es with
  | nil => intro s _ h; exact h
  | cons x r ih =>
    intro s hx h
    refine ih _ (fun y hy => hx y (by simp [hy])) ?_
    unfold lnStep
    split
    · exact h
    · next hne =>
      split
      · intro l hl
        rcases List.mem_append.1 hl with h1 | h1
        · exact h l h1
        · obtain rfl : l = x.text := by simpa using h1
          refine hx x (by simp) ?_
          rcases Classical.em (x.cfg = cfg) with h2 | h2
          · exact h2
          · exact absurd (.inl h2) hne
      · split
        · exact h
        · split <;> exact h
theorem start_get {ls : List (List UInt8)} {k : Nat} (P : List UInt8 → Prop) (h0 : P []) (h : ∀ l ∈ ls, P l) : P (ls.getD k []) := by
  rw [List.getD_eq_getElem?_getD]
  cases hq : ls[k]? with
  | none => exact h0
  | some s => exact h s (List.mem_of_getElem? hq)
theorem ln_print {ls : List (List UInt8)} {es : List Ed} {cfg : Int} (hl : ∀ l ∈ ls, printB l = true) (hx : ∀ x ∈ es, x.cfg = cfg → printB x.text = true) : ∀ l ∈ lnOf ls es cfg, printB l = true := by
  intro l hm
  obtain ⟨k, _, hk⟩ := List.mem_flatMap.1 hm
  unfold lnEnd at hk
  rcases List.mem_append.1 hk with h | h
  · exact fold_outs (fun l => printB l = true) es _ hx (fun l h => by simp [lnStart] at h) l h
  · split at h
    · obtain rfl : l = (lnAt ls es cfg k).line := by simpa using h
      exact fold_line (fun l => printB l = true) (flip_print hl) es _ (start_get (fun l => printB l = true) rfl hl)
    · cases h
theorem join_flat (f : Nat → List (List UInt8)) : ∀ n, ((joinNl ((List.range n).flatMap f)).length : Int) = sumI (fun k => ((joinNl (f k)).length : Int)) n := by
  intro n
  induction n with
  | zero => rfl
  | succ n ih => rw [sumI_succ, List.range_succ, List.flatMap_append, joinNl_app, List.length_append]; simp only [List.flatMap_cons, List.flatMap_nil, List.append_nil]; omega
def outB (ls : List (List UInt8)) (es : List Ed) (cfg : Int) (k : Nat) : Int := ((joinNl (lnAt ls es cfg k).outs).length : Int)
theorem out_sum {ls : List (List UInt8)} {cfg : Int} (N : Nat) : ∀ (m : Nat) (es : List Ed), (∀ x ∈ es, x.text.length ≤ 200) → m ≤ es.length → sumI (outB ls (es.take m) cfg) N ≤ 201 * m := by
  intro m
  induction m with
  | zero =>
    intro es _ _
    have : sumI (outB ls (es.take 0) cfg) N = sumI (fun _ => 0) N := sumI_same _ _ _ (fun k _ => rfl)
    rw [this]
    have h0 : ∀ n, sumI (fun _ => (0 : Int)) n = 0 := by
      intro n
      induction n with
      | zero => rfl
      | succ n ih => rw [sumI_succ, ih]; rfl
    rw [h0]; simp
  | succ m ih =>
    intro es ht hm
    have h1 := ih es ht (by omega)
    have hx := ht es[m] (List.getElem_mem _)
    rw [List.take_succ_eq_append_getElem (by omega)]
    generalize es[m] = x at hx
    have := sumI_le_upd (outB ls (es.take m) cfg) (outB ls (es.take m ++ [x]) cfg) (x.line - 1).toNat 201 (by omega) (fun k hk => by
        unfold outB; rw [lnAt_snoc, step_skip (.inr (by omega))]) (by
        unfold outB
        rw [lnAt_snoc]
        unfold lnStep
        split
        · omega
        · split
          · simp only [joinNl_app, joinNl_one, List.length_append, List.length_cons, List.length_nil]; omega
          · split
            · simp only; omega
            · split <;> ((try simp only) <;> omega)) N
    omega
theorem base_sum (ls : List (List UInt8)) : ∀ n, n ≤ ls.length → sumI (fun k => ((ls.getD k []).length : Int)) n = (((ls.take n).map List.length).sum : Nat) := by
  intro n
  induction n with
  | zero => intro _; rfl
  | succ n ih =>
    intro h
    rw [sumI_succ, ih (by omega), List.take_succ_eq_append_getElem (by omega), List.map_append, List.sum_append]
    simp [List.getD_eq_getElem?_getD, List.getElem?_eq_getElem (show n < ls.length by omega)]
theorem const_sum (c : Int) : ∀ n : Nat, sumI (fun _ => c) n = c * n := by
  intro n
  induction n with
  | zero => simp [sumI]
  | succ n ih => rw [sumI_succ, ih, Int.natCast_add, Int.mul_add]; simp
theorem edited_size {ls : List (List UInt8)} {es : List Ed} {cfg : Int} (ht : ∀ x ∈ es, x.text.length ≤ 200) (he : es.length ≤ 24) (hs : (ls.map List.length).sum + ls.length ≤ 1501) : (joinNl (lnOf ls es cfg)).length ≤ 65536 := by
  have h1 := join_flat (fun k => lnEnd (lnAt ls es cfg k)) (ls.length + 1)
  have h2 : sumI (fun k => ((joinNl (lnEnd (lnAt ls es cfg k))).length : Int)) (ls.length + 1) ≤ sumI (fun k => outB ls es cfg k + (((ls.getD k []).length : Int) + 8)) (ls.length + 1) := by
    refine sumI_mono _ _ _ (fun k _ => ?_)
    have hl := fold_line (cfg := cfg) (fun l => l.length ≤ (ls.getD k []).length + 7) (flip_len_at (ls := ls) (k := k)) es (lnStart ls k) (by simp [lnStart])
    unfold outB lnEnd
    rw [joinNl_app, List.length_append]
    have hj : (joinNl (if (lnAt ls es cfg k).keep then [(lnAt ls es cfg k).line] else [])).length ≤ (lnAt ls es cfg k).line.length + 1 := by
      split
      · rw [joinNl_one]; simp
      · simp [joinNl]
    have hl2 : (lnAt ls es cfg k).line.length ≤ (ls.getD k []).length + 7 := hl
    omega
  rw [sumI_add] at h2
  have h3 := out_sum (ls := ls) (cfg := cfg) (ls.length + 1) es.length es ht (Nat.le_refl _)
  rw [List.take_length] at h3
  have h4 : sumI (fun k => ((ls.getD k []).length : Int) + 8) (ls.length + 1) = sumI (fun k => ((ls.getD k []).length : Int)) (ls.length + 1) + sumI (fun _ => 8) (ls.length + 1) := sumI_add _ _ _
  have h6 : sumI (fun k => ((ls.getD k []).length : Int)) (ls.length + 1) = (((ls.map List.length).sum : Nat) : Int) + ((ls.getD ls.length []).length : Int) := by
    rw [sumI_succ, base_sum ls _ (Nat.le_refl _), List.take_length]
  rw [h4, const_sum, h6] at h2
  have h5 : (ls.getD ls.length []).length = 0 := by simp [List.getD_eq_getElem?_getD]
  unfold lnOf
  omega
theorem ln_nil (ls : List (List UInt8)) (cfg : Int) : lnOf ls [] cfg = ls := by
  have h : ∀ n, n ≤ ls.length → ((List.range n).flatMap fun k => lnEnd (lnAt ls [] cfg k)) = ls.take n := by
    intro n
    induction n with
    | zero => intro _; rfl
    | succ n ih =>
      intro hn
      rw [List.range_succ, List.flatMap_append, ih (by omega), List.take_succ_eq_append_getElem (by omega)]
      congr 1
      simp [lnEnd, lnAt, lnStart, List.getD_eq_getElem?_getD, show n < ls.length by omega]
  unfold lnOf
  rw [List.range_succ, List.flatMap_append, h _ (Nat.le_refl _), List.take_length]
  simp [lnEnd, lnAt, lnStart]
/-- The text after accepted edits is read back as its lines. -/
theorem edited_lines {t : List UInt8} {es : List Ed} {cfg : Int} (he : linesErr t = 0) (hs : t.length ≤ 1500) (hes : es.length ≤ 24) (ht : ∀ x ∈ es, x.text.length ≤ 200) (hp : ∀ x ∈ es, x.cfg = cfg → printB x.text = true) :
    linesErr (rewriteOf (linesOf t) es cfg) = 0 ∧ linesOf (rewriteOf (linesOf t) es cfg) = lnOf (linesOf t) es cfg := by
  have hpr := ln_print (es := es) (cfg := cfg) (lines_ok_print he) hp
  have hsz := edited_size (ls := linesOf t) (cfg := cfg) ht hes (by have := lines_size t []; simp at this; unfold linesOf; omega)
  rw [rewrite_join]
  refine ⟨?_, lines_join _ hpr⟩
  unfold linesErr
  rw [if_neg (by omega), if_pos (valid_join _ hpr)]
end Go.Proofs.YtpclacofcfbpjaaDoor
