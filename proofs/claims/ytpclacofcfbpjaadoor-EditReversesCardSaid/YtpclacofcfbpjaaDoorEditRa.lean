/- Plain laws behind EditReverses: one edit, and a flip done twice. No condition. -/
import Derived.Test.YtpclacofcfbpjaaDoorEditLa
namespace Go.Proofs.YtpclacofcfbpjaaDoor
open Go.RowKit

theorem range_split (f : Nat → List (List UInt8)) (a b : Nat) : (List.range (a + b)).flatMap f = (List.range a).flatMap f ++ (List.range b).flatMap fun k => f (a + k) := by
  induction b with
  | zero => simp
  | succ b ih =>
    rw [← Nat.add_assoc, List.range_succ, List.flatMap_append, ih, List.range_succ, List.flatMap_append]
    simp
theorem flat_congr (f g : Nat → List (List UInt8)) : ∀ n, (∀ k, k < n → g k = f k) → (List.range n).flatMap g = (List.range n).flatMap f := by
  intro n
  induction n with
  | zero => intro _; rfl
  | succ n ih =>
    intro h
    rw [List.range_succ, List.flatMap_append, List.flatMap_append, ih (fun k hk => h k (by omega))]
    simp [h n (by omega)]
theorem base_take (ls : List (List UInt8)) (cfg : Int) : ∀ n, n ≤ ls.length → ((List.range n).flatMap fun k => lnEnd (lnAt ls [] cfg k)) = ls.take n := by
  intro n
  induction n with
  | zero => intro _; rfl
  | succ n ih =>
    intro hn
    rw [List.range_succ, List.flatMap_append, ih (by omega), List.take_succ_eq_append_getElem (by omega)]
    congr 1
    simp [lnEnd, lnAt, lnStart, List.getD_eq_getElem?_getD, show n < ls.length by omega]
theorem base_drop (ls : List (List UInt8)) (cfg : Int) (a : Nat) (h : a ≤ ls.length) : ((List.range (ls.length + 1 - a)).flatMap fun k => lnEnd (lnAt ls [] cfg (a + k))) = ls.drop a := by
  have h1 := ln_nil ls cfg
  unfold lnOf at h1
  rw [show ls.length + 1 = a + (ls.length + 1 - a) from by omega, range_split, base_take ls cfg a h] at h1
  have h2 : ls.take a ++ ls.drop a = ls := List.take_append_drop a ls
  exact List.append_cancel_left (h1.trans h2.symm)
/-- One edit: what stands at its place is all that differs. -/
theorem one_edit (ls : List (List UInt8)) (x : Ed) (cfg : Int) (k : Nat) (hk : k ≤ ls.length) (hl : x.line = k + 1) :
    lnOf ls [x] cfg = ls.take k ++ lnEnd (lnStep ls cfg k (lnStart ls k) x) ++ ls.drop (k + 1) := by
  have hne : ∀ j, j ≠ k → lnEnd (lnAt ls [x] cfg j) = lnEnd (lnAt ls [] cfg j) := fun j hj => by
    show lnEnd (lnStep ls cfg j (lnStart ls j) x) = _
    rw [step_skip (.inr (by omega))]; rfl
  unfold lnOf
  rw [show ls.length + 1 = k + (1 + (ls.length - k)) from by omega, range_split, range_split, flat_congr _ _ k (fun j hj => hne j (by omega)), base_take ls cfg k hk, List.append_assoc]
  congr 1
  have h2 : ((List.range (ls.length - k)).flatMap fun j => lnEnd (lnAt ls [x] cfg (k + (1 + j)))) = ls.drop (k + 1) := by
    rcases Nat.lt_or_ge k ls.length with h | h
    · rw [flat_congr (fun j => lnEnd (lnAt ls [] cfg (k + 1 + j))) _ _ (fun j _ => by rw [hne _ (by omega), Nat.add_assoc])]
      have := base_drop ls cfg (k + 1) (by omega)
      rw [show ls.length + 1 - (k + 1) = ls.length - k from by omega] at this
      exact this
    · rw [List.drop_eq_nil_of_le (by omega), show ls.length - k = 0 from by omega]; rfl
  rw [h2]
  simp [List.range_succ]; rfl
theorem one_other (ls : List (List UInt8)) (x : Ed) (cfg : Int) (h : ¬ x.cfg = cfg) : lnOf ls [x] cfg = ls := by
  have h1 := ln_nil ls cfg
  unfold lnOf at h1 ⊢
  rw [flat_congr (fun k => lnEnd (lnAt ls [] cfg k)) (fun k => lnEnd (lnAt ls [x] cfg k)) _ (fun k _ => by
    show lnEnd (lnStep ls cfg k (lnStart ls k) x) = _
    rw [step_skip (.inl h)]; rfl)]
  exact h1
theorem one_ins (ls : List (List UInt8)) (k : Nat) (c : Int) (t : List UInt8) (hk : k ≤ ls.length) : lnOf ls [⟨c, k + 1, 3, t⟩] c = ls.take k ++ [t] ++ ls.drop k := by
  rw [one_edit ls _ c k hk rfl]
  unfold lnStep
  rw [if_neg (by simp), if_pos rfl]
  unfold lnEnd lnStart
  simp only
  rcases Nat.lt_or_ge k ls.length with h | h
  · rw [if_pos (by simpa using h), list_step ls k h, List.getD_eq_getElem?_getD, List.getElem?_eq_getElem h]
    simp
  · rw [if_neg (by simpa using h), List.drop_eq_nil_of_le (show ls.length ≤ k by omega), List.drop_eq_nil_of_le (by omega)]
    simp
theorem one_del (ls : List (List UInt8)) (k : Nat) (c : Int) (hk : k < ls.length) : lnOf ls [⟨c, k + 1, 1, []⟩] c = ls.take k ++ ls.drop (k + 1) := by
  rw [one_edit ls _ c k (by omega) rfl]
  unfold lnStep
  rw [if_neg (by simp), if_neg (by simp), if_neg (by simp), if_pos rfl]
  simp [lnEnd, lnStart]
theorem one_flp (ls : List (List UInt8)) (k : Nat) (c : Int) (t : List UInt8) (hk : k < ls.length) : lnOf ls [⟨c, k + 1, 2, t⟩] c = ls.take k ++ [(flipI ls k).getD []] ++ ls.drop (k + 1) := by
  rw [one_edit ls _ c k (by omega) rfl]
  unfold lnStep
  rw [if_neg (by simp), if_neg (by simp), if_pos rfl]
  simp [lnEnd, lnStart, hk]

def HeadBlank (l : List UInt8) : Prop := l = [] ∨ ∃ c r, l = c :: r ∧ blankB c.toNat = true
def LastBlank (l : List UInt8) : Prop := l = [] ∨ ∃ q c, l = q ++ [c] ∧ blankB c.toNat = true
def noZero (l : List UInt8) : Bool := l.all fun b => !((b.toNat : Int) == 0)
theorem noZero_of {l : List UInt8} (h : printB l = true) : noZero l = true := by
  unfold printB noZero at *
  rw [List.all_eq_true] at *
  intro b hb
  have := h b hb
  simp only [printC, Bool.or_eq_true, Bool.and_eq_true, decide_eq_true_eq, beq_iff_eq] at this
  simp; omega
theorem head_any {l : List UInt8} (h : HeadBlank l) (n : Nat) (a b : Bool) : startsGo n a l = startsGo n b l := by
  rcases h with rfl | ⟨c, r, rfl, hc⟩
  · rfl
  · simp only [startsGo, hc, if_true]
theorem tw_app {x post : List UInt8} (hp : HeadBlank post) : (x ++ post).takeWhile nbB = x.takeWhile nbB := by
  induction x with
  | nil =>
    rcases hp with rfl | ⟨c, r, rfl, hc⟩
    · rfl
    · simp only [List.nil_append, List.takeWhile_cons, nbB_blank hc]; rfl
  | cons b r ih => simp only [List.cons_append, List.takeWhile_cons, ih]
theorem starts_app {post : List UInt8} (hp : HeadBlank post) : ∀ (x : List UInt8) (n : Nat) (pb : Bool), noZero x = true → startsGo n pb (x ++ post) = startsGo n pb x ++ startsGo (n + x.length) true post := by
  intro x
  induction x with
  | nil => intro n pb _; simp only [List.nil_append, startsGo, List.length_nil, Nat.add_zero]; exact head_any hp _ _ _
  | cons b r ih =>
    intro n pb hz
    simp only [noZero, List.all_cons, Bool.and_eq_true, Bool.not_eq_true'] at hz
    have hb0 : ¬ (b.toNat : Int) = 0 := by simpa using hz.1
    have h1 := ih (n + 1) true hz.2
    have h2 := ih (n + 1) false hz.2
    have ht : (b :: (r ++ post)).takeWhile nbB = (b :: r).takeWhile nbB := tw_app (x := b :: r) hp
    simp only [List.cons_append, startsGo, List.length_cons]
    split
    · rw [h1]; congr 2; omega
    · split
      · rw [h2]; congr 2; omega
      · rw [h2, ht, List.cons_append]; congr 3; omega
theorem starts_pre {pre : List UInt8} (hp : LastBlank pre) (y : List UInt8) (n : Nat) (hz : noZero pre = true) : startsGo n true (pre ++ y) = startsGo n true pre ++ startsGo (n + pre.length) true y := by
  rcases hp with rfl | ⟨q, c, rfl, hc⟩
  · simp [startsGo]
  · have hzq : noZero q = true := by unfold noZero at *; rw [List.all_append, Bool.and_eq_true] at hz; exact hz.1
    have e1 : startsGo n true (q ++ (c :: y)) = startsGo n true q ++ startsGo (n + q.length) true (c :: y) := starts_app (.inr ⟨c, y, rfl, hc⟩) q n true hzq
    have e2 : startsGo n true (q ++ [c]) = startsGo n true q ++ startsGo (n + q.length) true [c] := starts_app (.inr ⟨c, [], rfl, hc⟩) q n true hzq
    rw [List.append_assoc, show [c] ++ y = c :: y from rfl, e1, e2]
    simp only [startsGo, hc, if_true, List.append_nil, List.length_append, List.length_cons, List.length_nil]
    rfl
theorem starts_word {x : List UInt8} (n : Nat) (h0 : x ≠ []) (hn : x.all nbB = true) (hz : noZero x = true) : startsGo n true x = [(n, x)] := by
  cases x with
  | nil => exact absurd rfl h0
  | cons b r =>
    simp only [List.all_cons, Bool.and_eq_true] at hn
    simp only [noZero, List.all_cons, Bool.and_eq_true, Bool.not_eq_true'] at hz
    have hb : blankB b.toNat = false := by have := hn.1; unfold nbB at this; simpa using this
    have hb0 : ¬ (b.toNat : Int) = 0 := by simpa using hz.1
    have htw : (b :: r).takeWhile nbB = b :: r := by
      have : ∀ l : List UInt8, l.all nbB = true → l.takeWhile nbB = l := by
        intro l
        induction l with
        | nil => intro _; rfl
        | cons a l ih => intro h; simp only [List.all_cons, Bool.and_eq_true] at h; rw [List.takeWhile_cons, h.1, ih h.2]; rfl
      exact this _ (by simp [hn.1, hn.2])
    have hrest : ∀ (l : List UInt8) (m : Nat), l.all nbB = true → startsGo m false l = [] := by
      intro l
      induction l with
      | nil => intro m _; rfl
      | cons a l ih =>
        intro m h
        simp only [List.all_cons, Bool.and_eq_true] at h
        have ha : blankB a.toNat = false := by have := h.1; unfold nbB at this; simpa using this
        simp only [startsGo, ha, Bool.false_eq_true, if_false, if_true]
        exact ih _ h.2
    simp only [startsGo, hb, Bool.false_eq_true, if_false]
    rw [if_neg (by simp), if_neg hb0, htw, hrest r _ hn.2]
theorem tw_all (l : List UInt8) : (l.takeWhile nbB).all nbB = true := by
  induction l with
  | nil => rfl
  | cons a l ih => rw [List.takeWhile_cons]; split <;> simp_all
theorem tw_head (l : List UInt8) : HeadBlank (l.drop (l.takeWhile nbB).length) := by
  induction l with
  | nil => exact .inl rfl
  | cons a l ih =>
    rw [List.takeWhile_cons]
    split
    · simp only [List.length_cons, List.drop_succ_cons]; exact ih
    · next h => exact .inr ⟨a, l, rfl, by unfold nbB at h; simpa using h⟩
theorem starts_mem : ∀ (l : List UInt8) (n : Nat) (pb : Bool) (p : Nat) (f : List UInt8), (p, f) ∈ startsGo n pb l → ∃ pre post, l = pre ++ f ++ post ∧ p = n + pre.length ∧ (LastBlank pre ∧ (pre = [] → pb = true)) ∧ HeadBlank post ∧ f ≠ [] ∧ f.all nbB = true := by
  intro l
  induction l with
  | nil => intro n pb p f h; cases h
  | cons b r ih =>
    intro n pb p f h
    have rec_ : ∀ pb', (p, f) ∈ startsGo (n + 1) pb' r → (pb' = true → blankB b.toNat = true) → ∃ pre post, b :: r = pre ++ f ++ post ∧ p = n + pre.length ∧ (LastBlank pre ∧ (pre = [] → pb = true)) ∧ HeadBlank post ∧ f ≠ [] ∧ f.all nbB = true := by
      intro pb' hm hb
      obtain ⟨pre, post, e1, e2, ⟨e3, e4⟩, e5, e6, e7⟩ := ih _ _ _ _ hm
      refine ⟨b :: pre, post, by rw [e1]; rfl, by simp; omega, ⟨?_, fun h => by cases h⟩, e5, e6, e7⟩
      rcases e3 with rfl | ⟨q, c, rfl, hc⟩
      · exact .inr ⟨[], b, rfl, hb (e4 rfl)⟩
      · exact .inr ⟨b :: q, c, rfl, hc⟩
    simp only [startsGo] at h
    split at h
    · next hb => exact rec_ true h (fun _ => hb)
    · next hnb =>
      split at h
      · exact rec_ false h (fun h => by cases h)
      · next hpb =>
        split at h
        · cases h
        · rcases List.mem_cons.1 h with h | h
          · injection h with h1 h2
            subst h1 h2
            have htd := take_drop_while (b :: r)
            refine ⟨[], (b :: r).drop ((b :: r).takeWhile nbB).length, by simpa using htd, by simp, ⟨.inl rfl, fun _ => by simpa using hpb⟩, tw_head _, ?_, tw_all _⟩
            intro h0
            rw [List.takeWhile_cons, if_pos (by unfold nbB; simpa using hnb)] at h0
            cases h0
          · exact rec_ false h (fun h => by cases h)
theorem acts_nil_iff (L : List (Nat × List UInt8)) : L.filterMap pickAct = [] ↔ ∀ y ∈ L.map Prod.snd, actB (bareOf y) = false := by
  induction L with
  | nil => simp
  | cons a r ih =>
    rw [List.filterMap_cons, List.map_cons]
    cases h : actB (bareOf a.2) with
    | true =>
      have e : pickAct a = some (a.1, bareOf a.2) := by unfold pickAct; rw [if_pos h]
      rw [e]
      constructor
      · intro H; cases H
      · intro H; have := H a.2 (by simp); rw [h] at this; cases this
    | false =>
      have e : pickAct a = none := by unfold pickAct; rw [if_neg (by simp [h])]
      rw [e]
      simp only [ih]
      constructor
      · intro H y hy
        rcases List.mem_cons.1 hy with rfl | hy
        · exact h
        · exact H y hy
      · intro H y hy
        exact H y (List.mem_cons_of_mem _ hy)
theorem starts_snd : ∀ (l : List UInt8) (n m : Nat) (pb : Bool), (startsGo n pb l).map Prod.snd = (startsGo m pb l).map Prod.snd := by
  intro l
  induction l with
  | nil => intros; rfl
  | cons b r ih =>
    intro n m pb
    simp only [startsGo]
    split
    · exact ih _ _ _
    · split
      · exact ih _ _ _
      · split
        · rfl
        · simp only [List.map_cons, ih (n + 1) (m + 1)]
/-- A line with one action, which is a field by itself: with another word in its place the line's one action is that word. -/
theorem acts_swap {pre x y post : List UInt8} (hp : LastBlank pre) (hq : HeadBlank post) (hz : noZero (pre ++ x ++ post) = true) (hx : x ≠ []) (hxn : x.all nbB = true) (hy : y ≠ []) (hyn : y.all nbB = true) (hyz : noZero y = true)
    (hxb : actB (bareOf x) = true) (hyb : actB (bareOf y) = true) (hyy : bareOf y = y) {a : Nat × List UInt8} (ha : actsOf (pre ++ x ++ post) = [a]) : actsOf (pre ++ y ++ post) = [(pre.length, y)] ∧ a = (pre.length, bareOf x) := by
  have hz3 : noZero pre = true ∧ noZero x = true := by
    unfold noZero at *
    rw [List.all_append, List.all_append, Bool.and_eq_true, Bool.and_eq_true] at hz
    exact hz.1
  have st : ∀ z : List UInt8, z ≠ [] → z.all nbB = true → noZero z = true → startsGo 0 true (pre ++ z ++ post) = startsGo 0 true pre ++ ([(pre.length, z)] ++ startsGo (pre.length + z.length) true post) := by
    intro z h0 hn hzz
    rw [List.append_assoc, starts_pre hp _ 0 hz3.1, Nat.zero_add, starts_app hq z _ _ hzz, starts_word _ h0 hn hzz]
  unfold actsOf at *
  rw [st x hx hxn hz3.2, List.filterMap_append, List.filterMap_append] at ha
  rw [st y hy hyn hyz, List.filterMap_append, List.filterMap_append]
  have e1 : ([(pre.length, x)] : List (Nat × List UInt8)).filterMap pickAct = [(pre.length, bareOf x)] := by rw [List.filterMap_cons, acts_some hxb]; rfl
  have e2 : ([(pre.length, y)] : List (Nat × List UInt8)).filterMap pickAct = [(pre.length, y)] := by rw [List.filterMap_cons, acts_some hyb, hyy]; rfl
  rw [e1] at ha
  rw [e2]
  have hl := congrArg List.length ha
  simp only [List.length_append, List.length_cons, List.length_nil] at hl
  have h1 : (startsGo 0 true pre).filterMap pickAct = [] := List.eq_nil_of_length_eq_zero (by omega)
  have h2 : (startsGo (pre.length + x.length) true post).filterMap pickAct = [] := List.eq_nil_of_length_eq_zero (by omega)
  have h3 : (startsGo (pre.length + y.length) true post).filterMap pickAct = [] := by
    rw [acts_nil_iff] at h2 ⊢
    rw [starts_snd post _ (pre.length + x.length)]
    exact h2
  rw [h1, h2] at ha
  rw [h1, h3]
  exact ⟨rfl, by injection ha with ha _; exact ha.symm⟩
end Go.Proofs.YtpclacofcfbpjaaDoor
