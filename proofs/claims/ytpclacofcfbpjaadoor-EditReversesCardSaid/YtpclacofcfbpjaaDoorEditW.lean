/- Plain laws on the lines of a text after edits: how many there are, that they are read back. No condition. -/
import Derived.Test.YtpclacofcfbpjaaDoorEditM
namespace Go.Proofs.YtpclacofcfbpjaaDoor
open Go.RowKit

def joinNl (L : List (List UInt8)) : List UInt8 := L.flatMap (· ++ [10])
theorem joinNl_app (a b : List (List UInt8)) : joinNl (a ++ b) = joinNl a ++ joinNl b := by simp [joinNl]
theorem joinNl_one (a : List UInt8) : joinNl [a] = a ++ [10] := by simp [joinNl]
theorem print_not10 {b : UInt8} (h : printC b.toNat = true) : ¬ (b.toNat : Int) = 10 := by
  intro e; rw [e] at h; revert h; decide
theorem linesGo_line : ∀ (l cur t : List UInt8), printB l = true → linesGo cur (l ++ 10 :: t) = (cur ++ l) :: linesGo [] t := by
  intro l
  induction l with
  | nil => intro cur t _; simp [linesGo]
  | cons b r ih =>
    intro cur t h
    simp only [printB, List.all_cons, Bool.and_eq_true] at h
    simp only [List.cons_append, linesGo]
    rw [if_neg (print_not10 h.1), ih _ t h.2]
    simp
theorem lines_join : ∀ (L : List (List UInt8)), (∀ l ∈ L, printB l = true) → linesOf (joinNl L) = L := by
  intro L
  unfold linesOf
  induction L with
  | nil => intro _; rfl
  | cons l r ih =>
    intro h
    have e : joinNl (l :: r) = l ++ 10 :: joinNl r := by simp [joinNl]
    rw [e, linesGo_line l [] _ (h l (by simp)), ih (fun x hx => h x (by simp [hx]))]; rfl
theorem valid_print {b : UInt8} (h : printC b.toNat = true) : validC b.toNat = true := by
  simp only [printC, validC, Bool.or_eq_true, Bool.and_eq_true] at h ⊢
  rcases h with h | h
  · exact .inl (.inl h)
  · exact .inr h
theorem valid_join : ∀ (L : List (List UInt8)), (∀ l ∈ L, printB l = true) → validAll (joinNl L) = true := by
  intro L
  induction L with
  | nil => intro _; rfl
  | cons l r ih =>
    intro h
    have e : joinNl (l :: r) = l ++ 10 :: joinNl r := by simp [joinNl]
    have hl := h l (by simp)
    rw [e]
    unfold validAll printB at *
    rw [List.all_append, List.all_cons, ih (fun x hx => h x (by simp [hx]))]
    have h1 : l.all (fun b => validC b.toNat) = true := by
      rw [List.all_eq_true] at hl ⊢
      exact fun x hx => valid_print (hl x hx)
    rw [h1]; rfl
theorem lines_print : ∀ (t cur : List UInt8), validAll t = true → printB cur = true → ∀ l ∈ linesGo cur t, printB l = true := by
  intro t
  induction t with
  | nil =>
    intro cur _ hc l hl
    simp only [linesGo, flush] at hl
    split at hl
    · cases hl
    · obtain rfl : l = cur := by simpa using hl
      exact hc
  | cons b r ih =>
    intro cur hv hc l hl
    simp only [validAll, List.all_cons, Bool.and_eq_true] at hv
    simp only [linesGo] at hl
    split at hl
    · rcases List.mem_cons.1 hl with rfl | hl
      · exact hc
      · exact ih [] hv.2 rfl l hl
    · next h10 =>
      refine ih (cur ++ [b]) hv.2 ?_ l hl
      unfold printB at *
      rw [List.all_append, hc]
      have h1 := hv.1
      simp only [validC, Bool.or_eq_true] at h1
      simp only [List.all_cons, List.all_nil, Bool.and_true, Bool.true_and, printC, Bool.or_eq_true]
      rcases h1 with (h | h) | h
      · exact .inl h
      · exact absurd (by simpa using h) h10
      · exact .inr h
theorem lines_ok_print {t : List UInt8} (h : linesErr t = 0) : ∀ l ∈ linesOf t, printB l = true := by
  have hv : validAll t = true := by
    unfold linesErr at h
    split at h
    · cases h
    · split at h
      · assumption
      · cases h
  exact lines_print t [] hv rfl
theorem lines_size : ∀ (t cur : List UInt8), ((linesGo cur t).map List.length).sum + (linesGo cur t).length ≤ cur.length + t.length + 1 := by
  intro t
  induction t with
  | nil => intro cur; simp only [linesGo, flush]; split <;> simp
  | cons b r ih =>
    intro cur
    simp only [linesGo]
    split
    · have := ih []
      simp only [List.map_cons, List.sum_cons, List.length_cons, List.length_nil] at *
      omega
    · have := ih (cur ++ [b])
      simp only [List.length_append, List.length_cons, List.length_nil] at *
      omega

/-- The lines that stand at place k: inserted ones, then the line itself if it is kept. -/
structure LnSt where
  outs : List (List UInt8)
  line : List UInt8
  keep : Bool
def lnStep (ls : List (List UInt8)) (cfg : Int) (k : Nat) (s : LnSt) (x : Ed) : LnSt :=
  if ¬ x.cfg = cfg ∨ ¬ x.line = k + 1 then s
  else if x.kind = 3 then { s with outs := s.outs ++ [x.text] }
  else if x.kind = 2 then { s with line := (flipI ls k).getD [] }
  else if x.kind = 1 then { s with keep := false }
  else s
def lnStart (ls : List (List UInt8)) (k : Nat) : LnSt := ⟨[], ls.getD k [], decide (k < ls.length)⟩
def lnAt (ls : List (List UInt8)) (es : List Ed) (cfg : Int) (k : Nat) : LnSt := es.foldl (lnStep ls cfg k) (lnStart ls k)
def lnEnd (s : LnSt) : List (List UInt8) := s.outs ++ if s.keep then [s.line] else []
def lnOf (ls : List (List UInt8)) (es : List Ed) (cfg : Int) : List (List UInt8) := (List.range (ls.length + 1)).flatMap fun k => lnEnd (lnAt ls es cfg k)
def asRw (s : LnSt) : RwSt := ⟨joinNl s.outs, s.line, s.keep⟩
theorem ln_rw (ls : List (List UInt8)) (cfg : Int) (k : Nat) : ∀ (es : List Ed) (s : LnSt), es.foldl (rwStep ls cfg k) (asRw s) = asRw (es.foldl (lnStep ls cfg k) s) := by
  intro es
  induction es with
  | nil => intro s; rfl
  | cons x r ih =>
    intro s
    simp only [List.foldl_cons]
    rw [← ih]
    congr 1
    unfold rwStep lnStep asRw
    split
    · rfl
    · split
      · simp [joinNl]
      · split
        · rfl
        · split <;> rfl
theorem pos_join (ls : List (List UInt8)) (es : List Ed) (cfg : Int) (k : Nat) : rwPos ls es cfg k = joinNl (lnEnd (lnAt ls es cfg k)) := by
  have h := ln_rw ls cfg k es (lnStart ls k)
  have e : asRw (lnStart ls k) = rwStart ls k := rfl
  rw [e] at h
  unfold rwPos lnAt
  rw [h]
  unfold rwEnd asRw lnEnd
  simp only
  split
  · rw [joinNl_app, joinNl_one, List.append_assoc]
  · rw [List.append_nil]
theorem rewrite_join (ls : List (List UInt8)) (es : List Ed) (cfg : Int) : rewriteOf ls es cfg = joinNl (lnOf ls es cfg) := by
  unfold rewriteOf rwUpto lnOf
  have h : ∀ (ks : List Nat), ks.flatMap (rwPos ls es cfg) = joinNl (ks.flatMap fun k => lnEnd (lnAt ls es cfg k)) := by
    intro ks
    induction ks with
    | nil => rfl
    | cons k r ih => simp only [List.flatMap_cons]; rw [joinNl_app, ih, pos_join]
  exact h _
end Go.Proofs.YtpclacofcfbpjaaDoor
