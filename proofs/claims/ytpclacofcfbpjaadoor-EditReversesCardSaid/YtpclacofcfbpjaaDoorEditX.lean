/- Plain laws on accepted edits: how many lines a text has after them, and that its lines are read back. No condition. -/
import Derived.Test.YtpclacofcfbpjaaDoorEditW
namespace Go.Proofs.YtpclacofcfbpjaaDoor
open Go.RowKit

theorem checks_all {lss : List (List (List UInt8))} : ∀ (es e0 : List Ed), checksErr lss e0 es = 0 → ∀ i (h : i < es.length), checkErr lss (e0 ++ es.take i) es[i] = 0 := by
  intro es
  induction es with
  | nil => intro e0 _ i h; simp at h
  | cons x r ih =>
    intro e0 hc i h
    simp only [checksErr] at hc
    split at hc
    · next h0 =>
      cases i with
      | zero => simpa using h0
      | succ i =>
        have := ih _ hc i (by simpa using h)
        simpa using this
    · contradiction
structure Okay (ls : List (List UInt8)) (e : List Ed) (x : Ed) : Prop where
  kind : x.kind = 1 ∨ x.kind = 2 ∨ x.kind = 3
  lo : 1 ≤ x.line
  hi : x.line ≤ lastLine ls x.kind
  pr : printB x.text = true
  empty : ¬ x.kind = 3 → x.text = []
  flp : x.kind = 2 → ¬ flipI ls (x.line - 1) = none
  free : ¬ x.kind = 3 → e.any (clash x) = false
theorem check_zero {lss : List (List (List UInt8))} {e : List Ed} {x : Ed} (h : checkErr lss e x = 0) : 0 ≤ x.cfg ∧ ∃ ls, lss[x.cfg.toNat]? = some ls ∧ Okay ls e x := by
  unfold checkErr at h
  split at h
  · cases h
  · next h0 =>
    refine ⟨by omega, ?_⟩
    split at h
    · cases h
    · next ls hls =>
      refine ⟨ls, hls, ?_⟩
      unfold checkIn at h
      split at h
      · cases h
      · next hk =>
        split at h
        · cases h
        · next ht =>
          split at h
          · cases h
          · next hl =>
            have hp : printB x.text = true := by
              cases hp : printB x.text
              · exact absurd (.inr (.inr hp)) hl
              · rfl
            split at h
            · next h3 => exact ⟨by omega, by omega, by omega, hp, fun h => absurd h3 h, fun h => by omega, fun h => absurd h3 h⟩
            · next h3 =>
              split at h
              · cases h
              · next h2 =>
                split at h
                · cases h
                · next ha =>
                  exact ⟨by omega, by omega, by omega, hp, fun _ => by
                      rcases Classical.em (x.text = []) with h | h
                      · exact h
                      · exact absurd ⟨h3, h⟩ ht, fun hk2 hf => h2 ⟨hk2, hf⟩, fun _ => by simpa using ha⟩
theorem lnAt_snoc (ls : List (List UInt8)) (es : List Ed) (x : Ed) (cfg : Int) (k : Nat) : lnAt ls (es ++ [x]) cfg k = lnStep ls cfg k (lnAt ls es cfg k) x := by
  unfold lnAt; rw [List.foldl_append]; rfl
theorem step_skip {ls : List (List UInt8)} {cfg : Int} {k : Nat} {s : LnSt} {x : Ed} (h : ¬ x.cfg = cfg ∨ ¬ x.line = k + 1) : lnStep ls cfg k s x = s := by unfold lnStep; rw [if_pos h]
theorem keep_why {ls : List (List UInt8)} {cfg : Int} {k : Nat} : ∀ (es : List Ed) (s : LnSt), (es.foldl (lnStep ls cfg k) s).keep = false → s.keep = false ∨ ∃ y ∈ es, ¬ y.kind = 3 ∧ y.cfg = cfg ∧ y.line = k + 1 := by
  intro es
  induction es with
  | nil => intro s h; exact .inl h
  | cons x r ih =>
    intro s h
    rcases ih _ h with h1 | ⟨y, hy, h2⟩
    · unfold lnStep at h1
      split at h1
      · exact .inl h1
      · next hx =>
        split at h1
        · exact .inl h1
        · next h3 =>
          refine .inr ⟨x, by simp, h3, ?_⟩
          constructor
          · rcases Classical.em (x.cfg = cfg) with h | h
            · exact h
            · exact absurd (.inl h) hx
          · rcases Classical.em (x.line = k + 1) with h | h
            · exact h
            · exact absurd (.inr h) hx
    · exact .inr ⟨y, by simp [hy], h2⟩
def sumI (f : Nat → Int) (n : Nat) : Int := ((List.range n).map f).sum
theorem sumI_succ (f : Nat → Int) (n : Nat) : sumI f (n + 1) = sumI f n + f n := by unfold sumI; rw [List.range_succ]; simp
theorem sumI_same (f g : Nat → Int) : ∀ n, (∀ k, k < n → g k = f k) → sumI g n = sumI f n := by
  intro n
  induction n with
  | zero => intro _; rfl
  | succ n ih => intro h; rw [sumI_succ, sumI_succ, ih (fun k hk => h k (by omega)), h n (by omega)]
theorem sumI_upd (f g : Nat → Int) (k0 : Nat) (hne : ∀ k, k ≠ k0 → g k = f k) : ∀ n, k0 < n → sumI g n = sumI f n + (g k0 - f k0) := by
  intro n
  induction n with
  | zero => intro h; omega
  | succ n ih =>
    intro h
    rw [sumI_succ, sumI_succ]
    rcases Nat.lt_or_ge k0 n with h1 | h1
    · rw [ih h1, hne n (by omega)]; omega
    · have e : k0 = n := by omega
      subst e
      rw [sumI_same f g k0 (fun k hk => hne k (by omega))]; omega
theorem sumI_le_upd (f g : Nat → Int) (k0 : Nat) (d : Int) (hd : 0 ≤ d) (hne : ∀ k, k ≠ k0 → g k = f k) (h0 : g k0 ≤ f k0 + d) : ∀ n, sumI g n ≤ sumI f n + d := by
  intro n
  rcases Nat.lt_or_ge k0 n with h1 | h1
  · rw [sumI_upd f g k0 hne n h1]; omega
  · rw [sumI_same f g n (fun k hk => hne k (by omega))]; omega
theorem sumI_mono (f g : Nat → Int) : ∀ n, (∀ k, k < n → g k ≤ f k) → sumI g n ≤ sumI f n := by
  intro n
  induction n with
  | zero => intro _; exact Int.le_refl _
  | succ n ih => intro h; rw [sumI_succ, sumI_succ]; have := ih (fun k hk => h k (by omega)); have := h n (by omega); omega
theorem sumI_add (f g : Nat → Int) : ∀ n, sumI (fun k => f k + g k) n = sumI f n + sumI g n := by
  intro n
  induction n with
  | zero => rfl
  | succ n ih => rw [sumI_succ, sumI_succ, sumI_succ, ih]; omega
theorem len_flat (f : Nat → List (List UInt8)) : ∀ n, (((List.range n).flatMap f).length : Int) = sumI (fun k => ((f k).length : Int)) n := by
  intro n
  induction n with
  | zero => rfl
  | succ n ih => rw [sumI_succ, List.range_succ, List.flatMap_append, List.length_append]; simp only [List.flatMap_cons, List.flatMap_nil, List.append_nil]; omega

def deltaOf (cfg : Int) (x : Ed) : Int := if x.cfg = cfg then (if x.kind = 1 then -1 else if x.kind = 3 then 1 else 0) else 0
def cntOf (ls : List (List UInt8)) (es : List Ed) (cfg : Int) (k : Nat) : Int := ((lnEnd (lnAt ls es cfg k)).length : Int)
theorem end_len (s : LnSt) : ((lnEnd s).length : Int) = s.outs.length + (if s.keep then 1 else 0) := by
  unfold lnEnd; split <;> simp
theorem cnt_start (ls : List (List UInt8)) (cfg : Int) : ∀ n, n ≤ ls.length → sumI (cntOf ls [] cfg) n = n := by
  intro n
  induction n with
  | zero => intro _; rfl
  | succ n ih =>
    intro h
    rw [sumI_succ, ih (by omega)]
    unfold cntOf
    rw [end_len]
    simp [lnAt, lnStart]; omega
theorem cnt_zero (ls : List (List UInt8)) (cfg : Int) : sumI (cntOf ls [] cfg) (ls.length + 1) = ls.length := by
  rw [sumI_succ, cnt_start ls cfg _ (Nat.le_refl _)]
  unfold cntOf
  rw [end_len]
  simp [lnAt, lnStart]
theorem cnt_snoc {ls : List (List UInt8)} {es : List Ed} {x : Ed} {cfg : Int} (hx : x.cfg = cfg → Okay ls es x) : sumI (cntOf ls (es ++ [x]) cfg) (ls.length + 1) = sumI (cntOf ls es cfg) (ls.length + 1) + deltaOf cfg x := by
  by_cases hc : x.cfg = cfg
  case neg =>
    unfold deltaOf
    rw [if_neg hc, Int.add_zero]
    refine sumI_same _ _ _ (fun k _ => ?_)
    unfold cntOf; rw [lnAt_snoc, step_skip (.inl hc)]
  obtain ⟨hk, hlo, hhi, _, _, _, hfree⟩ := hx hc
  have hhi2 : x.line ≤ ls.length + 1 := by unfold lastLine at hhi; split at hhi <;> omega
  obtain ⟨k0, hk0⟩ : ∃ k0 : Nat, x.line = k0 + 1 := ⟨(x.line - 1).toNat, by omega⟩
  have hne : ∀ k, k ≠ k0 → cntOf ls (es ++ [x]) cfg k = cntOf ls es cfg k := fun k hkk => by
    unfold cntOf; rw [lnAt_snoc, step_skip (.inr (by omega))]
  rw [sumI_upd _ _ k0 hne _ (by omega)]
  congr 1
  unfold cntOf deltaOf
  rw [lnAt_snoc, if_pos hc, end_len, end_len]
  unfold lnStep
  rw [if_neg (by omega)]
  rcases hk with hk | hk | hk
  · have hkeep : (lnAt ls es cfg k0).keep = true := by
      cases hkk : (lnAt ls es cfg k0).keep with
      | true => rfl
      | false =>
        rcases keep_why es _ hkk with h1 | ⟨y, hy, h2, h3, h4⟩
        · have : k0 < ls.length := by unfold lastLine at hhi; rw [if_neg (by omega)] at hhi; omega
          simp [lnStart] at h1; omega
        · have hf := hfree (by omega)
          rw [List.any_eq_false] at hf
          have := hf y hy
          simp [clash, h2, h3, h4, hc, hk0] at this
    rw [if_neg (show ¬ x.kind = 3 by omega), if_neg (show ¬ x.kind = 2 by omega), if_pos hk, if_pos hk]
    simp only [hkeep, Bool.false_eq_true, if_false, if_true]
    omega
  · rw [if_neg (show ¬ x.kind = 3 by omega), if_pos hk, if_neg (show ¬ x.kind = 1 by omega), if_neg (show ¬ x.kind = 3 by omega)]
    simp only
    omega
  · rw [if_pos hk, if_neg (show ¬ x.kind = 1 by omega), if_pos hk]
    simp only [List.length_append, List.length_cons, List.length_nil]
    omega
theorem cnt_all {ls : List (List UInt8)} {es : List Ed} {cfg : Int} (h : ∀ i (hi : i < es.length), es[i].cfg = cfg → Okay ls (es.take i) es[i]) : ((lnOf ls es cfg).length : Int) = ls.length + (es.map (deltaOf cfg)).sum := by
  have hm : ∀ m, m ≤ es.length → sumI (cntOf ls (es.take m) cfg) (ls.length + 1) = ls.length + ((es.take m).map (deltaOf cfg)).sum := by
    intro m
    induction m with
    | zero => intro _; rw [List.take_zero, cnt_zero]; simp
    | succ m ih =>
      intro hm
      rw [List.take_succ_eq_append_getElem (by omega), cnt_snoc (h m (by omega)), ih (by omega), List.map_append, List.sum_append]
      simp only [List.map_cons, List.map_nil, List.sum_cons, List.sum_nil]; omega
  have := hm es.length (Nat.le_refl _)
  rw [List.take_length] at this
  rw [← this]
  unfold lnOf cntOf
  rw [len_flat]
end Go.Proofs.YtpclacofcfbpjaaDoor
