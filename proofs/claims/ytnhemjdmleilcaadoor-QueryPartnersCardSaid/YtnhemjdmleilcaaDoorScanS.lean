/- What the functions of package scan compute, as plain functions on lists of bytes; and plain laws on them. No condition. -/
import Derived.Test.YtnhemjdmleilcaaDoorBase
namespace Go.Proofs.YtnhemjdmleilcaaDoor
open Go.RowKit

def blankB (c : Int) : Bool := c == 9 || c == 32
def digitB (c : Int) : Bool := decide (48 ≤ c) && decide (c ≤ 57)
def letterB (c : Int) : Bool := (decide (65 ≤ c) && decide (c ≤ 90)) || (decide (97 ≤ c) && decide (c ≤ 122))
def markB (c : Int) : Bool := c == 123 || c == 125 || c == 59
def wordB (c : Int) : Bool := !blankB c && !markB c && !(c == 35)
def nameC (c : Int) : Bool := letterB c || digitB c || c == 45 || c == 95 || c == 47 || c == 46
def nameRest (l : List UInt8) : Bool := l.all fun b => nameC b.toNat
def nameB (l : List UInt8) : Bool := match l with
  | [] => false
  | c :: r => decide (r.length ≤ 14) && letterB c.toNat && nameRest r

def validC (c : Int) : Bool := c == 9 || c == 10 || (decide (32 ≤ c) && decide (c ≤ 126))
def validAll (l : List UInt8) : Bool := l.all fun b => validC b.toNat
def flush (cur : List UInt8) : List (List UInt8) := if cur = [] then [] else [cur]
def linesGo : List UInt8 → List UInt8 → List (List UInt8)
  | cur, [] => flush cur
  | cur, c :: r => if (c.toNat : Int) = 10 then cur :: linesGo [] r else linesGo (cur ++ [c]) r
def linesOf (l : List UInt8) : List (List UInt8) := linesGo [] l
/-- The error of Lines: 7 (too long), 2 (a byte that is not allowed), 0. -/
def linesErr (l : List UInt8) : Int := if 65536 < l.length then 7 else if validAll l then 0 else 2

def fieldsGo (cm : Int) : Option (List UInt8) → List UInt8 → List (List UInt8)
  | none, [] => []
  | some x, [] => [x]
  | none, b :: r => if blankB b.toNat then fieldsGo cm none r else if (b.toNat : Int) = cm then [] else fieldsGo cm (some [b]) r
  | some x, b :: r => if blankB b.toNat then x :: fieldsGo cm none r else fieldsGo cm (some (x ++ [b])) r
def fieldsOf (cm : Int) (l : List UInt8) : List (List UInt8) := fieldsGo cm none l

def tokGo : List UInt8 → List UInt8 → List (List UInt8)
  | cur, [] => flush cur
  | cur, b :: r => if (b.toNat : Int) = 35 then flush cur else if blankB b.toNat then flush cur ++ tokGo [] r
      else if markB b.toNat then flush cur ++ [b] :: tokGo [] r else tokGo (cur ++ [b]) r
def tokLine (l : List UInt8) : List (List UInt8) := tokGo [] l
/-- The tokens of lines, the first of which has the number n: pairs of the line's number and the text. -/
def toksFrom : Int → List (List UInt8) → List (Int × List UInt8)
  | _, [] => []
  | n, l :: r => (tokLine l).map (fun t => (n, t)) ++ toksFrom (n + 1) r
def toksOf (l : List UInt8) : List (Int × List UInt8) := toksFrom 1 (linesOf l)

/-- The digits' value behind v; none where a byte is no digit. -/
def numGo : Int → List UInt8 → Option Int
  | v, [] => some v
  | v, b :: r => if digitB b.toNat then numGo (v * 10 + (b.toNat - 48)) r else none
def numForm (l : List UInt8) : Bool := match l with
  | [] => false
  | [_] => true
  | b :: _ => decide (l.length ≤ 10) && !((b.toNat : Int) == 48)
def numOf (l : List UInt8) : Option Int := if numForm l then numGo 0 l else none
def numIn (l : List UInt8) (least most : Int) : Option Int := match numOf l with
  | none => none
  | some v => if least ≤ v ∧ v ≤ most then some v else none
def numV (o : Option Int) : Int := o.getD 0

theorem linesGo_len (l : List UInt8) : ∀ cur, (linesGo cur l).length ≤ l.length + 1 := by
  induction l with
  | nil => intro cur; simp only [linesGo, flush]; split <;> simp
  | cons c r ih =>
    intro cur
    simp only [linesGo]
    split
    · have := ih []; simp; omega
    · have := ih (cur ++ [c]); simp; omega
theorem numGo_bd : ∀ (l : List UInt8) (v n : Int), 0 ≤ v → numGo v l = some n → v ≤ n ∧ n < (v + 1) * 10 ^ l.length := by
  intro l
  induction l with
  | nil =>
    intro v n hv h
    simp only [numGo, Option.some.injEq] at h
    subst h
    simp; omega
  | cons b r ih =>
    intro v n hv h
    simp only [numGo] at h
    split at h
    · next hd =>
      simp only [digitB, Bool.and_eq_true, decide_eq_true_eq] at hd
      obtain ⟨h1, h2⟩ := ih _ _ (by omega) h
      refine ⟨by omega, ?_⟩
      have h3 : (v * 10 + (↑b.toNat - 48) + 1) * 10 ^ r.length ≤ ((v + 1) * 10) * 10 ^ r.length := Int.mul_le_mul_of_nonneg_right (by omega) (Int.le_of_lt (Int.pow_pos (by omega)))
      have h4 : (v + 1) * 10 ^ (b :: r).length = ((v + 1) * 10) * 10 ^ r.length := by
        rw [List.length_cons, Int.pow_succ, Int.mul_assoc, Int.mul_comm (10 ^ r.length) 10]
      omega
    · cases h
end Go.Proofs.YtnhemjdmleilcaaDoor
