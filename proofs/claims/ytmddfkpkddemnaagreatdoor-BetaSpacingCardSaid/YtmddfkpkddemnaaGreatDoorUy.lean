/- Plain: a text's tokens, written anew with any of four gaps behind each, are the same tokens. No condition. -/
import Derived.Test.YtmddfkpkddemnaaGreatDoorUa
namespace Go.Proofs.YtmddfkpkddemnaaGreatDoor
open Go.RowKit
/-- What is written behind a token. -/
def gapL : Nat → List UInt8
  | 0 => [32]
  | 1 => [10]
  | 2 => [9]
  | _ => [32, 35, 32, 125, 32, 110, 111, 116, 101, 32, 123, 10]
/-- Tokens with their gaps. -/
def joinG : List (List UInt8) → List Nat → List UInt8
  | [], _ => []
  | x :: xs, gs => x ++ (gapL (gs.headD 0) ++ joinG xs gs.tail)
def wAll (l : List UInt8) : Bool := l.all fun b => wordB b.toNat
/-- The form of a token: bytes of a word, or one mark. -/
def TkF (x : List UInt8) : Prop := (x ≠ [] ∧ wAll x = true) ∨ ∃ b : UInt8, x = [b] ∧ markB b.toNat = true
theorem wAll_append (a b : List UInt8) : wAll (a ++ b) = (wAll a && wAll b) := by simp only [wAll, List.all_append]
theorem flush_mem {x cur : List UInt8} (h : x ∈ flush cur) : x = cur ∧ cur ≠ [] := by
  unfold flush at h
  split at h
  · cases h
  · exact ⟨by simpa using h, by assumption⟩
theorem tokGo_form : ∀ (l cur : List UInt8), wAll cur = true → ∀ x ∈ tokGo cur l, TkF x := by
  intro l
  induction l with
  | nil =>
    intro cur hc x hx
    obtain ⟨rfl, h⟩ := flush_mem (by simpa only [tokGo] using hx)
    exact .inl ⟨h, hc⟩
  | cons b r ih =>
    intro cur hc x hx
    have hf : x ∈ flush cur → TkF x := fun h => by obtain ⟨rfl, h⟩ := flush_mem h; exact .inl ⟨h, hc⟩
    rw [tokGo] at hx
    split at hx
    · exact hf hx
    · rename_i h35
      split at hx
      · rcases List.mem_append.mp hx with h | h
        · exact hf h
        · exact ih [] rfl x h
      · rename_i hb
        split at hx
        · rename_i hm
          rcases List.mem_append.mp hx with h | h
          · exact hf h
          · rcases List.mem_cons.mp h with rfl | h
            · exact .inr ⟨b, rfl, hm⟩
            · exact ih [] rfl x h
        · rename_i hm
          refine ih (cur ++ [b]) ?_ x hx
          rw [wAll_append, hc, Bool.true_and]
          simp [wAll, wordB, hb, hm, h35]
theorem tokGo_mem : ∀ (l cur : List UInt8) (x : List UInt8), x ∈ tokGo cur l → ∀ b ∈ x, b ∈ cur ++ l := by
  intro l
  induction l with
  | nil =>
    intro cur x hx b hb
    obtain ⟨rfl, h⟩ := flush_mem (by simpa only [tokGo] using hx)
    simpa using hb
  | cons c r ih =>
    intro cur x hx b hb
    have hf : x ∈ flush cur → b ∈ cur ++ c :: r := fun h => by obtain ⟨rfl, h⟩ := flush_mem h; exact List.mem_append.mpr (.inl hb)
    have hr : ∀ z, x ∈ tokGo [] r → z = z → b ∈ cur ++ c :: r := fun (z : Nat) h _ => by
      have := ih [] x h b hb
      simp only [List.nil_append] at this
      simp [this]
    rw [tokGo] at hx
    split at hx
    · exact hf hx
    · split at hx
      · rcases List.mem_append.mp hx with h | h
        · exact hf h
        · exact hr 0 h rfl
      · split at hx
        · rcases List.mem_append.mp hx with h | h
          · exact hf h
          · rcases List.mem_cons.mp h with rfl | h
            · simp at hb; simp [hb]
            · exact hr 0 h rfl
        · have := ih _ x hx b hb
          simpa [List.append_assoc] using this
theorem tokGo_sum : ∀ (l cur : List UInt8), ((tokGo cur l).map List.length).sum ≤ cur.length + l.length := by
  have hf : ∀ cur : List UInt8, ((flush cur).map List.length).sum ≤ cur.length := by
    intro cur; unfold flush; split <;> simp
  intro l
  induction l with
  | nil => intro cur; have := hf cur; simpa only [tokGo, List.length_nil, Nat.add_zero] using this
  | cons c r ih =>
    intro cur
    have h0 := hf cur
    have h1 := ih []
    have h2 := ih (cur ++ [c])
    simp only [List.length_nil, List.length_append, List.length_cons, Nat.zero_add] at h1 h2
    rw [tokGo, List.length_cons]
    split
    · omega
    · split
      · rw [List.map_append, List.sum_append]; omega
      · split
        · rw [List.map_append, List.sum_append, List.map_cons, List.sum_cons, List.length_singleton]; omega
        · omega
theorem tokGo_count : ∀ (l cur : List UInt8), (tokGo cur l).length ≤ ((tokGo cur l).map List.length).sum := by
  intro l cur
  have : ∀ (xs : List (List UInt8)), (∀ x ∈ xs, x ≠ []) → xs.length ≤ (xs.map List.length).sum := by
    intro xs
    induction xs with
    | nil => intro _; simp
    | cons x r ih =>
      intro h
      have h1 := ih (fun y hy => h y (List.mem_cons_of_mem _ hy))
      have h2 : 0 < x.length := List.length_pos_iff.mpr (h x List.mem_cons_self)
      simp only [List.length_cons, List.map_cons, List.sum_cons]; omega
  refine this _ fun x hx => ?_
  have : ∀ (l cur : List UInt8), ∀ x ∈ tokGo cur l, x ≠ [] := by
    intro l
    induction l with
    | nil => intro cur x hx; exact fun e => (flush_mem (by simpa only [tokGo] using hx)).2 ((flush_mem (by simpa only [tokGo] using hx)).1 ▸ e)
    | cons c r ih =>
      intro cur x hx
      have hf : x ∈ flush cur → x ≠ [] := fun h e => (flush_mem h).2 ((flush_mem h).1 ▸ e)
      rw [tokGo] at hx
      split at hx
      · exact hf hx
      · split at hx
        · rcases List.mem_append.mp hx with h | h
          · exact hf h
          · exact ih _ x h
        · split at hx
          · rcases List.mem_append.mp hx with h | h
            · exact hf h
            · rcases List.mem_cons.mp h with rfl | h
              · simp
              · exact ih _ x h
          · exact ih _ x hx
  exact this l cur x hx
theorem linesGo_mem : ∀ (l cur z : List UInt8), z ∈ linesGo cur l → ∀ b ∈ z, b ∈ cur ∨ (b ∈ l ∧ (b.toNat : Int) ≠ 10) := by
  intro l
  induction l with
  | nil =>
    intro cur z hz b hb
    obtain ⟨rfl, _⟩ := flush_mem (by simpa only [linesGo] using hz)
    exact .inl hb
  | cons c r ih =>
    intro cur z hz b hb
    rw [linesGo] at hz
    split at hz
    · rcases List.mem_cons.mp hz with rfl | h
      · exact .inl hb
      · rcases ih [] z h b hb with h | h
        · cases h
        · exact .inr ⟨List.mem_cons_of_mem _ h.1, h.2⟩
    · rename_i hc
      rcases ih _ z hz b hb with h | h
      · rcases List.mem_append.mp h with h | h
        · exact .inl h
        · rw [List.mem_singleton] at h; subst h; exact .inr ⟨List.mem_cons_self, hc⟩
      · exact .inr ⟨List.mem_cons_of_mem _ h.1, h.2⟩
theorem linesGo_total : ∀ (l cur : List UInt8), ((linesGo cur l).map List.length).sum ≤ cur.length + l.length := by
  intro l
  induction l with
  | nil => intro cur; simp only [linesGo, flush]; split <;> simp
  | cons c r ih =>
    intro cur
    have h1 := ih []
    have h2 := ih (cur ++ [c])
    simp only [List.length_nil, List.length_append, List.length_cons, Nat.zero_add] at h1 h2
    rw [linesGo, List.length_cons]
    split
    · rw [List.map_cons, List.sum_cons]; omega
    · omega
def txs (l : List (Int × List UInt8)) : List (List UInt8) := l.map Prod.snd
theorem txs_from : ∀ (ls : List (List UInt8)) (n : Int), txs (toksFrom n ls) = ls.flatMap tokLine := by
  intro ls
  induction ls with
  | nil => intro n; rfl
  | cons l r ih =>
    intro n
    have := ih (n + 1)
    simp only [txs] at this
    simp only [txs, toksFrom, List.map_append, this, List.flatMap_cons, List.map_map]
    congr 1
    exact List.map_id' _
/-- What a token written in a text is: its form, no byte a line's end, every byte allowed. -/
def TkOk (x : List UInt8) : Prop := TkF x ∧ (∀ b ∈ x, (b.toNat : Int) ≠ 10) ∧ validAll x = true
theorem txs_ok {l : List UInt8} (h : validAll l = true) : ∀ x ∈ txs (toksOf l), TkOk x := by
  intro x hx
  rw [toksOf, txs_from] at hx
  obtain ⟨z, hz, hx⟩ := List.mem_flatMap.mp hx
  have h1 : ∀ b ∈ x, b ∈ l ∧ (b.toNat : Int) ≠ 10 := by
    intro b hb
    have h2 := tokGo_mem z [] x hx b hb
    rw [List.nil_append] at h2
    rcases linesGo_mem l [] z hz b h2 with h | h
    · cases h
    · exact h
  exact ⟨tokGo_form z [] rfl x hx, fun b hb => (h1 b hb).2, List.all_eq_true.mpr fun b hb => List.all_eq_true.mp h b (h1 b hb).1⟩
theorem txs_size (l : List UInt8) : ((txs (toksOf l)).map List.length).sum ≤ l.length ∧ (txs (toksOf l)).length ≤ l.length := by
  rw [toksOf, txs_from]
  have h1 := linesGo_total l []
  have : ∀ ls : List (List UInt8), ((ls.flatMap tokLine).map List.length).sum ≤ (ls.map List.length).sum ∧ (ls.flatMap tokLine).length ≤ (ls.map List.length).sum := by
    intro ls
    induction ls with
    | nil => simp
    | cons z r ih =>
      have h2 := tokGo_sum z []
      have h3 := tokGo_count z []
      simp only [List.length_nil, Nat.zero_add] at h2
      simp only [List.flatMap_cons, List.map_append, List.sum_append, List.map_cons, List.sum_cons, List.length_append, tokLine] at ih ⊢
      omega
  have h2 := this (linesGo [] l)
  simp only [List.length_nil, Nat.zero_add] at h1
  simp only [linesOf]
  omega
theorem run_tok (r : List UInt8) : ∀ (x cur : List UInt8), wAll x = true → tokGo cur (x ++ r) = tokGo (cur ++ x) r := by
  intro x
  induction x with
  | nil => intro cur _; simp
  | cons b t ih =>
    intro cur h
    have h1 : wordB b.toNat = true ∧ wAll t = true := by simpa [wAll] using h
    have h2 : blankB b.toNat = false ∧ markB b.toNat = false ∧ (b.toNat : Int) ≠ 35 := by
      have := h1.1; simp only [wordB, Bool.and_eq_true, Bool.not_eq_true', beq_eq_false_iff_ne] at this; exact ⟨this.1.1, this.1.2, this.2⟩
    rw [List.cons_append, tokGo, if_neg h2.2.2, if_neg (by simp [h2.1]), if_neg (by simp [h2.2.1]), ih _ h1.2, List.append_assoc, List.singleton_append]
theorem tok_gap {x : List UInt8} (h : TkF x) {b : UInt8} (hb : blankB b.toNat = true) (hn : (b.toNat : Int) ≠ 35) (r : List UInt8) : tokGo [] (x ++ b :: r) = x :: tokGo [] r := by
  rcases h with ⟨h1, h2⟩ | ⟨c, rfl, hm⟩
  · rw [run_tok _ x [] h2, List.nil_append, tokGo, if_neg hn, if_pos hb, flush, if_neg h1]; rfl
  · have hc : (c.toNat : Int) ≠ 35 ∧ blankB c.toNat = false := by
      constructor
      · intro e; rw [e] at hm; exact absurd hm (by decide)
      · cases he : blankB c.toNat with
        | false => rfl
        | true =>
          simp only [blankB, Bool.or_eq_true, beq_iff_eq] at he
          rcases he with he | he <;> rw [he] at hm <;> exact absurd hm (by decide)
    rw [List.singleton_append, tokGo, if_neg hc.1, if_neg (by simp [hc.2]), if_pos hm, tokGo, if_neg hn, if_pos hb]; rfl
theorem tok_end1 {x : List UInt8} (h : TkF x) : tokGo [] x = [x] := by
  rcases h with ⟨h1, h2⟩ | ⟨c, rfl, hm⟩
  · have := run_tok [] x [] h2
    rw [List.append_nil, List.nil_append] at this
    rw [this, tokGo, flush, if_neg h1]
  · have hc : (c.toNat : Int) ≠ 35 ∧ blankB c.toNat = false := by
      constructor
      · intro e; rw [e] at hm; exact absurd hm (by decide)
      · cases he : blankB c.toNat with
        | false => rfl
        | true =>
          simp only [blankB, Bool.or_eq_true, beq_iff_eq] at he
          rcases he with he | he <;> rw [he] at hm <;> exact absurd hm (by decide)
    rw [tokGo, if_neg hc.1, if_neg (by simp [hc.2]), if_pos hm]; rfl
theorem run_line (r : List UInt8) : ∀ (x cur : List UInt8), (∀ b ∈ x, (b.toNat : Int) ≠ 10) → linesGo cur (x ++ r) = linesGo (cur ++ x) r := by
  intro x
  induction x with
  | nil => intro cur _; simp
  | cons b t ih =>
    intro cur h
    rw [List.cons_append, linesGo, if_neg (h b List.mem_cons_self), ih _ (fun c hc => h c (List.mem_cons_of_mem _ hc)), List.append_assoc, List.singleton_append]
theorem txs_join : ∀ (xs : List (List UInt8)) (gs : List Nat) (cur : List UInt8) (tk : List (List UInt8)), (∀ x ∈ xs, TkOk x) → (∀ r, tokGo [] (cur ++ r) = tk ++ tokGo [] r) →
    (linesGo cur (joinG xs gs)).flatMap tokLine = tk ++ xs := by
  intro xs
  induction xs with
  | nil =>
    intro gs cur tk _ h
    have h0 := h []
    rw [List.append_nil, show tokGo [] [] = [] from rfl, List.append_nil] at h0
    simp only [joinG, linesGo, flush, List.append_nil]
    split
    · rename_i hc; subst hc; rw [← h0]; rfl
    · simp only [List.flatMap_cons, List.flatMap_nil, List.append_nil, tokLine, h0]
  | cons x xs ih =>
    intro gs cur tk hx h
    obtain ⟨h1, h2, _⟩ := hx x List.mem_cons_self
    have hr : ∀ y ∈ xs, TkOk y := fun y hy => hx y (List.mem_cons_of_mem _ hy)
    have hblank : ∀ (b : UInt8), blankB b.toNat = true → (b.toNat : Int) ≠ 35 → (b.toNat : Int) ≠ 10 → (linesGo cur (x ++ ([b] ++ joinG xs gs.tail))).flatMap tokLine = tk ++ x :: xs := by
      intro b hb h35 h10
      rw [run_line _ x cur h2, run_line _ [b] _ (by intro c hc; rw [List.mem_singleton] at hc; rw [hc]; exact h10), ih gs.tail _ (tk ++ [x]) hr, List.append_assoc]; rfl
      intro r
      rw [List.append_assoc, List.append_assoc, h, List.singleton_append, tok_gap h1 hb h35, List.append_assoc]; rfl
    have hnew : (linesGo [] (joinG xs gs.tail)).flatMap tokLine = xs := by
      have := ih gs.tail [] [] hr (fun r => rfl)
      simpa using this
    rw [joinG]
    match hg : gs.headD 0 with
    | 0 => exact hblank 32 (by decide) (by decide) (by decide)
    | 2 => exact hblank 9 (by decide) (by decide) (by decide)
    | 1 =>
      simp only [gapL]
      rw [run_line _ x cur h2, List.singleton_append, linesGo, if_pos (by decide), List.flatMap_cons, hnew, tokLine, h, tok_end1 h1, List.append_assoc]; rfl
    | n + 3 =>
      simp only [gapL]
      rw [show ([32, 35, 32, 125, 32, 110, 111, 116, 101, 32, 123, 10] : List UInt8) = [32, 35, 32, 125, 32, 110, 111, 116, 101, 32, 123] ++ [10] from rfl, List.append_assoc, run_line _ x cur h2, run_line _ [32, 35, 32, 125, 32, 110, 111, 116, 101, 32, 123] _ (by decide), List.singleton_append, linesGo, if_pos (by decide), List.flatMap_cons, hnew, tokLine, List.append_assoc, h, tok_gap h1 (by decide) (by decide), show tokGo [] [35, 32, 125, 32, 110, 111, 116, 101, 32, 123] = [] from by decide, List.append_assoc]; rfl
theorem joinG_valid : ∀ (xs : List (List UInt8)) (gs : List Nat), (∀ x ∈ xs, TkOk x) → validAll (joinG xs gs) = true := by
  intro xs
  induction xs with
  | nil => intro _ _; rfl
  | cons x xs ih =>
    intro gs h
    have h1 := ih gs.tail fun y hy => h y (List.mem_cons_of_mem _ hy)
    have h2 := (h x List.mem_cons_self).2.2
    have h3 : validAll (gapL (gs.headD 0)) = true := by
      match gs.headD 0 with
      | 0 | 1 | 2 => decide
      | n + 3 => exact (by decide : validAll [32, 35, 32, 125, 32, 110, 111, 116, 101, 32, 123, 10] = true)
    simp only [validAll] at h1 h2 h3 ⊢
    rw [joinG, List.all_append, List.all_append, h1, h2, h3]; rfl
theorem joinG_len : ∀ (xs : List (List UInt8)) (gs : List Nat), (joinG xs gs).length ≤ (xs.map List.length).sum + 12 * xs.length := by
  intro xs
  induction xs with
  | nil => intro _; simp [joinG]
  | cons x xs ih =>
    intro gs
    have h1 := ih gs.tail
    have h3 : (gapL (gs.headD 0)).length ≤ 12 := by
      match gs.headD 0 with
      | 0 | 1 | 2 | n + 3 => simp [gapL]
    simp only [joinG, List.length_append, List.map_cons, List.sum_cons, List.length_cons]; omega
/-- The tokens of a text without an error, written anew: the same, and no error. -/
theorem toks_again {l : List UInt8} (h : linesErr l = 0) (hl : l.length ≤ 4096) (gs : List Nat) :
    linesErr (joinG (txs (toksOf l)) gs) = 0 ∧ txs (toksOf (joinG (txs (toksOf l)) gs)) = txs (toksOf l) := by
  have hv : validAll l = true := by
    unfold linesErr at h
    split at h
    · cases h
    · split at h
      · assumption
      · cases h
  have ho := txs_ok hv
  have hs := txs_size l
  have hj := joinG_len (txs (toksOf l)) gs
  constructor
  · rw [linesErr, if_neg (by omega), if_pos (joinG_valid _ gs ho)]
  · have := txs_join (txs (toksOf l)) gs [] [] ho (fun r => rfl)
    rw [show toksOf (joinG (txs (toksOf l)) gs) = toksFrom 1 (linesGo [] (joinG (txs (toksOf l)) gs)) from rfl, txs_from, this, List.nil_append]
end Go.Proofs.YtmddfkpkddemnaaGreatDoor
