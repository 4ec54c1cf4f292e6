/- What the functions of package edit compute, as plain functions on lists of bytes; and plain laws on them. No condition. -/
import Derived.Test.YtpclacofcfbpjaaDoorScanS
import Derived.Lib.Index
import Derived.Lib.TrimByte
namespace Go.Proofs.YtpclacofcfbpjaaDoor
open Go.RowKit

def wPermit : List UInt8 := [112, 101, 114, 109, 105, 116]
def wDeny : List UInt8 := [100, 101, 110, 121]
def wAccept : List UInt8 := [97, 99, 99, 101, 112, 116]
def wReject : List UInt8 := [114, 101, 106, 101, 99, 116]
def wDiscard : List UInt8 := [100, 105, 115, 99, 97, 114, 100]
def wFilter : List UInt8 := [102, 105, 108, 116, 101, 114]
def wPolicy : List UInt8 := [112, 111, 108, 105, 99, 121]

def nbB (b : UInt8) : Bool := !blankB b.toNat
/-- The fields of a line, each with the place where it begins; up to a field that begins with the byte 0. -/
def startsGo : Nat → Bool → List UInt8 → List (Nat × List UInt8)
  | _, _, [] => []
  | n, pb, b :: r => if blankB b.toNat then startsGo (n + 1) true r else if pb = false then startsGo (n + 1) false r
      else if (b.toNat : Int) = 0 then [] else (n, (b :: r).takeWhile nbB) :: startsGo (n + 1) false r
def bareOf (f : List UInt8) : List UInt8 := Lib.trimRightB f 59
def actB (x : List UInt8) : Bool := decide (x = wPermit) || decide (x = wDeny) || decide (x = wAccept) || decide (x = wReject) || decide (x = wDiscard)
def pickAct (x : Nat × List UInt8) : Option (Nat × List UInt8) := if actB (bareOf x.2) then some (x.1, bareOf x.2) else none
def actsOf (l : List UInt8) : List (Nat × List UInt8) := (startsGo 0 true l).filterMap pickAct
/-- What replaces accept, by the lines from the last one back. -/
def refusalGo : List (List UInt8) → List UInt8
  | [] => wReject
  | l :: r => match fieldsOf 0 l with
    | [] => refusalGo r
    | f :: _ => if f = wFilter then wDiscard else if f = wPolicy then wReject else refusalGo r
def refusalOf (ls : List (List UInt8)) : List UInt8 := refusalGo ls.reverse
def oppOf (ls : List (List UInt8)) (x : List UInt8) : List UInt8 :=
  if x = wPermit then wDeny else if x = wDeny then wPermit else if x = wAccept then refusalOf ls else wAccept
def flipLine (ls : List (List UInt8)) (k : Nat) (s : List UInt8) : List (Nat × List UInt8) → Option (List UInt8)
  | [(p, x)] => some (s.take p ++ oppOf (ls.take (k + 1)) x ++ s.drop (p + x.length))
  | _ => none
def flipOf (ls : List (List UInt8)) (k : Nat) : Option (List UInt8) := match ls[k]? with
  | none => none
  | some s => flipLine ls k s (actsOf s)
/-- Flip at an integer. -/
def flipI (ls : List (List UInt8)) (k : Int) : Option (List UInt8) := if k < 0 then none else flipOf ls k.toNat

theorem nbB_blank {b : UInt8} (h : blankB b.toNat = true) : nbB b = false := by simp [nbB, h]
theorem nbB_not {b : UInt8} (h : blankB b.toNat = false) : nbB b = true := by simp [nbB, h]
theorem starts_false : ∀ (l : List UInt8) (n : Nat), startsGo n false l = startsGo (n + (l.takeWhile nbB).length) true (l.drop (l.takeWhile nbB).length) := by
  intro l
  induction l with
  | nil => intro n; rfl
  | cons b r ih =>
    intro n
    cases hb : blankB b.toNat with
    | true =>
      rw [List.takeWhile_cons, nbB_blank hb]
      simp only [startsGo, hb, if_true, Bool.false_eq_true, if_false, List.length_nil, Nat.add_zero, List.drop_zero]
    | false =>
      rw [List.takeWhile_cons, nbB_not hb]
      simp only [startsGo, hb, if_true, Bool.false_eq_true, if_false, List.length_cons, List.drop_succ_cons]
      rw [ih (n + 1)]
      congr 1; omega
theorem fields_take (cm : Int) : ∀ (l x : List UInt8), fieldsGo cm (some x) l = (x ++ l.takeWhile nbB) :: fieldsGo cm none (l.drop (l.takeWhile nbB).length) := by
  intro l
  induction l with
  | nil => intro x; simp [fieldsGo]
  | cons b r ih =>
    intro x
    cases hb : blankB b.toNat with
    | true =>
      rw [List.takeWhile_cons, nbB_blank hb]
      simp [fieldsGo, hb]
    | false =>
      rw [List.takeWhile_cons, nbB_not hb]
      simp only [fieldsGo, hb, Bool.false_eq_true, if_false, if_true, List.length_cons, List.drop_succ_cons]
      rw [ih]; simp
/-- One field, with its place: what follows begins behind it. -/
theorem starts_open {b : UInt8} {r : List UInt8} (n : Nat) (hb : blankB b.toNat = false) (h0 : ¬ (b.toNat : Int) = 0) :
    startsGo n true (b :: r) = (n, (b :: r).takeWhile nbB) :: startsGo (n + ((b :: r).takeWhile nbB).length) true ((b :: r).drop ((b :: r).takeWhile nbB).length) := by
  rw [startsGo, if_neg (by simp [hb]), if_neg (by simp), if_neg h0, starts_false]
  congr 1
  rw [List.takeWhile_cons, nbB_not hb]
  simp only [if_true, List.length_cons, List.drop_succ_cons]
  congr 1; omega
theorem fields_starts : ∀ (m : Nat) (l : List UInt8) (n : Nat), l.length ≤ m → fieldsGo 0 none l = (startsGo n true l).map Prod.snd := by
  intro m
  induction m with
  | zero => intro l n h; rw [List.eq_nil_of_length_eq_zero (by omega : l.length = 0)]; rfl
  | succ m ih =>
    intro l n h
    cases l with
    | nil => rfl
    | cons b r =>
      simp only [List.length_cons] at h
      cases hb : blankB b.toNat with
      | true => simp only [fieldsGo, startsGo, hb, if_true]; exact ih r (n + 1) (by omega)
      | false =>
        by_cases h0 : (b.toNat : Int) = 0
        · simp [fieldsGo, startsGo, h0, show blankB 0 = false from by decide]
        · rw [starts_open n hb h0, fieldsGo, if_neg (by simp [hb]), if_neg h0, fields_take]
          have e : (b :: r).takeWhile nbB = b :: r.takeWhile nbB := by rw [List.takeWhile_cons, nbB_not hb]; rfl
          rw [e]
          simp only [List.map_cons, List.length_cons, List.drop_succ_cons, List.cons_append, List.nil_append]
          rw [← ih _ _ (by simp; omega)]
/-- The first field's place, in a list that begins with blanks. -/
theorem index_step {b : UInt8} {r f : List UInt8} (hb : blankB b.toNat = true) (hf : ∃ c t, f = c :: t ∧ blankB c.toNat = false) (h : 0 ≤ Lib.index r f) : Lib.index (b :: r) f = Lib.index r f + 1 := by
  obtain ⟨c, t, rfl, hc⟩ := hf
  have hne : (c == b) = false := by
    cases h' : (c == b)
    · rfl
    · rw [beq_iff_eq] at h'; subst h'; rw [hb] at hc; cases hc
  rw [Lib.index, if_neg (by simp [List.isPrefixOf, hne]), if_neg (by simp; omega)]
theorem index_here (f t : List UInt8) : Lib.index (f ++ t) f = 0 := by
  cases f with
  | nil => cases t <;> simp [Lib.index]
  | cons c f => simp [Lib.index]
theorem take_drop_while (l : List UInt8) : l = l.takeWhile nbB ++ l.drop (l.takeWhile nbB).length := by
  induction l with
  | nil => rfl
  | cons b r ih =>
    rw [List.takeWhile_cons]
    split
    · simp only [List.length_cons, List.drop_succ_cons, List.cons_append]; rw [← ih]
    · rfl
/-- The next field (at place p) is found behind the blanks. -/
theorem starts_next : ∀ (l : List UInt8) (n p : Nat) (f : List UInt8) (rest : List (Nat × List UInt8)), startsGo n true l = (p, f) :: rest →
    Lib.index l f = ((p - n : Nat) : Int) ∧ n ≤ p ∧ p - n + f.length ≤ l.length ∧ 0 < f.length ∧ rest = startsGo (p + f.length) true (l.drop (p - n + f.length)) ∧ (∃ c t, f = c :: t ∧ blankB c.toNat = false) ∧ f = (l.drop (p - n)).take f.length := by
  intro l
  induction l with
  | nil => intro n p f rest h; cases h
  | cons b r ih =>
    intro n p f rest h
    cases hb : blankB b.toNat with
    | true =>
      simp only [startsGo, hb, if_true] at h
      obtain ⟨h1, h2, h3, h4, h5, h6, h7⟩ := ih _ _ _ _ h
      have e : p - n = (p - (n + 1)) + 1 := by omega
      refine ⟨?_, by omega, ?_, h4, ?_, h6, ?_⟩
      · rw [index_step hb h6 (by omega), h1]; omega
      · simp only [List.length_cons]; omega
      · rw [h5, e, show p - (n + 1) + 1 + f.length = (p - (n + 1) + f.length) + 1 from by omega, List.drop_succ_cons]
      · rw [e, List.drop_succ_cons]; exact h7
    | false =>
      by_cases h0 : (b.toNat : Int) = 0
      · simp [startsGo, h0, show blankB 0 = false from by decide] at h
      · rw [starts_open n hb h0] at h
        injection h with ha hr
        injection ha with hp hf
        subst hp
        have e : (b :: r).takeWhile nbB = b :: r.takeWhile nbB := by rw [List.takeWhile_cons, nbB_not hb]; rfl
        have hl : ((b :: r).takeWhile nbB).length ≤ (b :: r).length := (List.takeWhile_prefix nbB).length_le
        have htd := take_drop_while (b :: r)
        rw [hf] at htd hl hr
        refine ⟨?_, Nat.le_refl _, ?_, ?_, ?_, ?_, ?_⟩
        · rw [Nat.sub_self]
          conv => lhs; rw [htd]
          rw [index_here]; rfl
        · omega
        · rw [← hf, e]; simp
        · rw [← hr, Nat.sub_self, Nat.zero_add]
        · exact ⟨b, _, by rw [← hf, e], hb⟩
        · rw [Nat.sub_self, List.drop_zero]
          conv => rhs; rw [htd]
          simp
theorem bare_len (f : List UInt8) : (bareOf f).length ≤ f.length := by
  unfold bareOf Lib.trimRightB
  rw [List.length_reverse]
  have := (List.dropWhile_suffix (l := f.reverse) (· == 59)).length_le
  simpa using this
theorem bare_snoc (f : List UInt8) (c : UInt8) : bareOf (f ++ [c]) = if c = 59 then bareOf f else f ++ [c] := by
  unfold bareOf Lib.trimRightB
  rw [List.reverse_append]
  simp only [List.reverse_cons, List.reverse_nil, List.nil_append, List.cons_append, List.dropWhile_cons]
  by_cases h : c = 59
  · simp [h]
  · simp [h]
theorem opp_ne {ls : List (List UInt8)} {x : List UInt8} : oppOf ls x ≠ [] := by
  have hr : ∀ l, refusalGo l ≠ [] := by
    intro l
    induction l with
    | nil => simp [refusalGo, wReject]
    | cons a r ih =>
      simp only [refusalGo]
      split
      · exact ih
      · split
        · simp [wDiscard]
        · split
          · simp [wReject]
          · exact ih
  unfold oppOf
  split
  · simp [wDeny]
  · split
    · simp [wPermit]
    · split
      · exact hr _
      · simp [wAccept]
end Go.Proofs.YtpclacofcfbpjaaDoor
