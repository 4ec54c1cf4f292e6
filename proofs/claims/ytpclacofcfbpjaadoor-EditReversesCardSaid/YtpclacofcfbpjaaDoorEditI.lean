/- What Apply computes, as plain functions; and how its data lie in memory. No condition. -/
import Derived.Test.YtpclacofcfbpjaaDoorEditH
namespace Go.Proofs.YtpclacofcfbpjaaDoor
open Go.RowKit

/-- An edit: configuration, line, kind (1 delete, 2 flip, 3 insert), text. -/
structure Ed where
  cfg : Int
  line : Int
  kind : Int
  text : List UInt8
def edCells (x : Ed) : List Value := [.int .i64 x.cfg, .int .i64 x.line, .int .i64 x.kind, strV x.text]
def edV (x : Ed) : Value := .agg #[.int .i64 x.cfg, .int .i64 x.line, .int .i64 x.kind, strV x.text]
def printC (c : Int) : Bool := c == 9 || (decide (32 ≤ c) && decide (c ≤ 126))
def printB (l : List UInt8) : Bool := l.all fun b => printC b.toNat
def splitErr : List (List UInt8) → Int
  | [] => 0
  | t :: r => if linesErr t = 0 then splitErr r else linesErr t
def splitOf (ts : List (List UInt8)) : List (List (List UInt8)) := ts.map linesOf
def clash (x y : Ed) : Bool := !decide (y.kind = 3) && decide (y.cfg = x.cfg) && decide (y.line = x.line)
def lastLine (ls : List (List UInt8)) (kind : Int) : Int := if kind = 3 then ls.length + 1 else ls.length
def checkIn (ls : List (List UInt8)) (earlier : List Ed) (x : Ed) : Int :=
  if ¬ (x.kind = 1 ∨ x.kind = 2 ∨ x.kind = 3) then 1
  else if ¬ x.kind = 3 ∧ ¬ x.text = [] then 1
  else if x.line < 1 ∨ lastLine ls x.kind < x.line ∨ printB x.text = false then 1
  else if x.kind = 3 then 0
  else if x.kind = 2 ∧ flipI ls (x.line - 1) = none then 8
  else if earlier.any (clash x) then 6 else 0
def checkErr (lss : List (List (List UInt8))) (earlier : List Ed) (x : Ed) : Int :=
  if x.cfg < 0 then 1 else match lss[x.cfg.toNat]? with
    | none => 1
    | some ls => checkIn ls earlier x
def checksErr (lss : List (List (List UInt8))) : List Ed → List Ed → Int
  | _, [] => 0
  | e, x :: r => if checkErr lss e x = 0 then checksErr lss (e ++ [x]) r else checkErr lss e x
def applyErr (ts : List (List UInt8)) (es : List Ed) : Int :=
  if splitErr ts = 0 then (if 24 < es.length then 7 else checksErr (splitOf ts) [] es) else splitErr ts
structure RwSt where
  out : List UInt8
  line : List UInt8
  keep : Bool
def rwStep (ls : List (List UInt8)) (cfg : Int) (k : Nat) (s : RwSt) (x : Ed) : RwSt :=
  if ¬ x.cfg = cfg ∨ ¬ x.line = k + 1 then s
  else if x.kind = 3 then { s with out := s.out ++ x.text ++ [10] }
  else if x.kind = 2 then { s with line := (flipI ls k).getD [] }
  else if x.kind = 1 then { s with keep := false }
  else s
def rwStart (ls : List (List UInt8)) (k : Nat) : RwSt := ⟨[], ls.getD k [], decide (k < ls.length)⟩
def rwEnd (s : RwSt) : List UInt8 := if s.keep then s.out ++ s.line ++ [10] else s.out
def rwPos (ls : List (List UInt8)) (es : List Ed) (cfg : Int) (k : Nat) : List UInt8 := rwEnd (es.foldl (rwStep ls cfg k) (rwStart ls k))
def rwUpto (ls : List (List UInt8)) (es : List Ed) (cfg : Int) (k : Nat) : List UInt8 := (List.range k).flatMap (rwPos ls es cfg)
def rewriteOf (ls : List (List UInt8)) (es : List Ed) (cfg : Int) : List UInt8 := rwUpto ls es cfg (ls.length + 1)
def rwAll : List (List (List UInt8)) → List Ed → Nat → List (List UInt8)
  | [], _, _ => []
  | ls :: r, es, i => rewriteOf ls es i :: rwAll r es (i + 1)
def applyOf (ts : List (List UInt8)) (es : List Ed) : List (List UInt8) := if applyErr ts es = 0 then rwAll (splitOf ts) es 0 else []

theorem rwUpto_succ (ls : List (List UInt8)) (es : List Ed) (cfg : Int) (k : Nat) : rwUpto ls es cfg (k + 1) = rwUpto ls es cfg k ++ rwPos ls es cfg k := by
  unfold rwUpto; rw [List.range_succ]; simp
theorem rwAll_len : ∀ (lss : List (List (List UInt8))) (es : List Ed) (i : Nat), (rwAll lss es i).length = lss.length := by
  intro lss
  induction lss with
  | nil => intros; rfl
  | cons a r ih => intro es i; simp [rwAll, ih]
theorem rwAll_get : ∀ (lss : List (List (List UInt8))) (es : List Ed) (i j : Nat) (h : j < lss.length), (rwAll lss es i)[j]? = some (rewriteOf lss[j] es ((i + j : Nat) : Int)) := by
  intro lss
  induction lss with
  | nil => intro es i j h; simp at h
  | cons a r ih =>
    intro es i j h
    cases j with
    | zero => simp [rwAll]
    | succ j =>
      have := ih es (i + 1) j (by simpa using h)
      simp only [rwAll, List.getElem?_cons_succ, List.getElem_cons_succ, this]
      congr 3; omega
theorem flip_len {ls : List (List UInt8)} {k : Int} {r : List UInt8} (h : flipI ls k = some r) : ∃ l ∈ ls, r.length ≤ l.length + 7 := by
  unfold flipI at h
  split at h
  · cases h
  · unfold flipOf at h
    split at h
    · cases h
    · next s hs =>
      refine ⟨s, List.mem_of_getElem? hs, ?_⟩
      unfold flipLine at h
      split at h
      · injection h with h
        subst h
        have := opp_len (ls.take (k.toNat + 1)) (by assumption)
        simp only [List.length_append, List.length_take, List.length_drop]
        omega
      · cases h

/-- A slice of strings: its capacity is at least its length. -/
def Sl (w : World) (B : Nat) (v : Value) (ls : List (List UInt8)) : Prop :=
  ∃ A c, v = .slice A ls.length c ∧ ls.length ≤ c ∧ Slc w B 1 (.slice A ls.length c) ls.length (ls.map strV)
theorem Sl.below {w w' : World} {B : Nat} {v : Value} {ls : List (List UInt8)} (h : Sl w B v ls) (hb : Below B w w') : Sl w' B v ls := by
  obtain ⟨A, c, rfl, h1, h2⟩ := h
  exact ⟨A, c, rfl, h1, h2.below hb⟩
theorem Sl.mono {w : World} {B B' : Nat} {v : Value} {ls : List (List UInt8)} (h : Sl w B v ls) (hB : B ≤ B') : Sl w B' v ls := by
  obtain ⟨A, c, rfl, h1, h2⟩ := h
  exact ⟨A, c, rfl, h1, h2.mono hB⟩
theorem Sl.of_own {w : World} {base : Nat} {v : Value} {ls : List (List UInt8)} (h : w.ownsRow base 9 1 v ls.length (ls.map strV)) : Sl w w.heap.size v ls := by
  have hs := Slc.of_own h
  rcases h.2 with ⟨rfl, h0⟩ | ⟨g, cap, cur, rfl, _, _, hn, _⟩
  · exact ⟨none, 0, by rw [h0], by omega, by rw [h0] at hs ⊢; exact hs⟩
  · exact ⟨_, cap, rfl, hn, hs⟩
theorem Sl.nil {w : World} {B : Nat} : Sl w B (.slice none 0 0) [] := ⟨none, 0, rfl, by simp, Slc.nil⟩
/-- A slice of slices of strings. -/
def LL (w : World) (B : Nat) (v : Value) (lss : List (List (List UInt8))) : Prop :=
  ∃ A c us, v = .slice A lss.length c ∧ us.length = lss.length ∧ Slc w B 1 (.slice A lss.length c) lss.length us ∧ ∀ (i : Nat) u ls, us[i]? = some u → lss[i]? = some ls → Sl w B u ls
theorem LL.below {w w' : World} {B : Nat} {v : Value} {lss : List (List (List UInt8))} (h : LL w B v lss) (hb : Below B w w') : LL w' B v lss := by
  obtain ⟨A, c, us, rfl, h1, h2, h3⟩ := h
  exact ⟨A, c, us, rfl, h1, h2.below hb, fun i u ls a b => (h3 i u ls a b).below hb⟩
theorem LL.mono {w : World} {B B' : Nat} {v : Value} {lss : List (List (List UInt8))} (h : LL w B v lss) (hB : B ≤ B') : LL w B' v lss := by
  obtain ⟨A, c, us, rfl, h1, h2, h3⟩ := h
  exact ⟨A, c, us, rfl, h1, h2.mono hB, fun i u ls a b => (h3 i u ls a b).mono hB⟩
theorem LL.form {w : World} {B : Nat} {v : Value} {lss : List (List (List UInt8))} (h : LL w B v lss) : ∃ A c, v = .slice A lss.length c := by
  obtain ⟨A, c, us, rfl, _⟩ := h; exact ⟨A, c, rfl⟩
theorem LL.at {w : World} {B c : Nat} {A : Option Addr} {n : Nat} {lss : List (List (List UInt8))} (h : LL w B (.slice A n c) lss) {i : Nat} (hi : i < lss.length) :
    ∃ g o u, A = some ⟨g, o, none⟩ ∧ g < B ∧ w.cell? ⟨g, o + i, none⟩ = some u ∧ Sl w B u lss[i] := by
  obtain ⟨A', c', us, e, h1, h2, h3⟩ := h
  injection e with e1 e2 e3
  subst e1 e2 e3
  obtain ⟨A', c', e, _, _, _, h4⟩ := h2
  injection e with e1 e2 e3
  subst e1
  obtain ⟨g, o, rfl, hg, hc⟩ := h4 (by omega)
  have hu : us[i]? = some us[i] := List.getElem?_eq_getElem (by omega)
  exact ⟨g, o, us[i], rfl, hg, hc i _ hu, h3 i _ _ hu (List.getElem?_eq_getElem hi)⟩
/-- A slice of edits. -/
def EL (w : World) (B : Nat) (v : Value) (es : List Ed) : Prop :=
  ∃ A c, v = .slice A es.length c ∧ es.length ≤ c ∧ Slc w B 4 (.slice A es.length c) es.length (es.flatMap edCells)
theorem EL.below {w w' : World} {B : Nat} {v : Value} {es : List Ed} (h : EL w B v es) (hb : Below B w w') : EL w' B v es := by
  obtain ⟨A, c, rfl, h1, h2⟩ := h
  exact ⟨A, c, rfl, h1, h2.below hb⟩
theorem EL.mono {w : World} {B B' : Nat} {v : Value} {es : List Ed} (h : EL w B v es) (hB : B ≤ B') : EL w B' v es := by
  obtain ⟨A, c, rfl, h1, h2⟩ := h
  exact ⟨A, c, rfl, h1, h2.mono hB⟩
theorem ed_flat : ∀ (xs : List Ed) (k : Nat) (h : k < xs.length), (xs.flatMap edCells)[k * 4]? = some (.int .i64 xs[k].cfg) ∧ (xs.flatMap edCells)[k * 4 + 1]? = some (.int .i64 xs[k].line) ∧
    (xs.flatMap edCells)[k * 4 + 2]? = some (.int .i64 xs[k].kind) ∧ (xs.flatMap edCells)[k * 4 + 3]? = some (strV xs[k].text) := by
  intro xs
  induction xs with
  | nil => intro k h; simp at h
  | cons x r ih =>
    intro k h
    cases k with
    | zero => simp [edCells]
    | succ k =>
      have := ih k (by simpa using h)
      have e : ∀ m, ((x :: r).flatMap edCells)[m + 4]? = (r.flatMap edCells)[m]? := by intro m; simp [edCells]
      rw [show (k + 1) * 4 = k * 4 + 4 from by omega, show k * 4 + 4 + 1 = (k * 4 + 1) + 4 from by omega, show k * 4 + 4 + 2 = (k * 4 + 2) + 4 from by omega, show k * 4 + 4 + 3 = (k * 4 + 3) + 4 from by omega, e, e, e, e]
      exact this
theorem EL.at {w : World} {B c : Nat} {A : Option Addr} {n : Nat} {es : List Ed} (h : EL w B (.slice A n c) es) {i : Nat} (hi : i < es.length) :
    ∃ g o, A = some ⟨g, o, none⟩ ∧ g < B ∧ w.cell? ⟨g, o + i * 4, none⟩ = some (.int .i64 es[i].cfg) ∧ w.cell? ⟨g, o + i * 4 + 1, none⟩ = some (.int .i64 es[i].line) ∧
      w.cell? ⟨g, o + i * 4 + 2, none⟩ = some (.int .i64 es[i].kind) ∧ w.cell? ⟨g, o + i * 4 + 3, none⟩ = some (strV es[i].text) := by
  obtain ⟨A', c', e, h1, h2⟩ := h
  injection e with e1 e2 e3
  subst e1 e2 e3
  obtain ⟨A', c', e, _, _, _, h4⟩ := h2
  injection e with e1 e2 e3
  subst e1
  obtain ⟨g, o, rfl, hg, hc⟩ := h4 (by omega)
  obtain ⟨f1, f2, f3, f4⟩ := ed_flat es i hi
  exact ⟨g, o, rfl, hg, hc _ _ f1, hc _ _ f2, hc _ _ f3, hc _ _ f4⟩
theorem ed_len : ∀ (xs : List Ed), (xs.flatMap edCells).length = xs.length * 4 := by
  intro xs
  induction xs with
  | nil => rfl
  | cons x r ih => simp [edCells, ih]; omega
theorem ed_take : ∀ (xs : List Ed) (m : Nat), (xs.flatMap edCells).take (m * 4) = (xs.take m).flatMap edCells := by
  intro xs
  induction xs with
  | nil => intro m; simp
  | cons x r ih =>
    intro m
    cases m with
    | zero => simp
    | succ m =>
      rw [show (m + 1) * 4 = m * 4 + 4 from by omega]
      simp only [List.flatMap_cons, List.take_succ_cons]
      rw [← ih m]
      simp [edCells]
theorem EL.take {w : World} {B c m : Nat} {A : Option Addr} {n : Nat} {es : List Ed} (h : EL w B (.slice A n c) es) (hm : m ≤ es.length) : EL w B (.slice A m c) (es.take m) := by
  obtain ⟨A', c', e, h1, h2⟩ := h
  injection e with e1 e2 e3
  subst e1 e2 e3
  have hl : (es.take m).length = m := by rw [List.length_take]; omega
  refine ⟨A, c, by rw [hl], by omega, ?_⟩
  obtain ⟨A', c', e, k1, k2, k3, h4⟩ := h2
  injection e with e1 e2 e3
  subst e1 e3
  refine ⟨A, c, rfl, by omega, by rw [ed_len], k3, fun h0 => ?_⟩
  obtain ⟨g, o, rfl, hg, hc⟩ := h4 (by omega)
  refine ⟨g, o, rfl, hg, fun j u hu => hc j u ?_⟩
  rw [← ed_take, List.getElem?_take] at hu
  split at hu
  · exact hu
  · cases hu
theorem EL.form {w : World} {B : Nat} {v : Value} {es : List Ed} (h : EL w B v es) : ∃ A c, v = .slice A es.length c ∧ es.length ≤ c ∧ es.length ≤ 9223372036854775807 := by
  obtain ⟨A, c, rfl, h1, h2⟩ := h
  exact ⟨A, c, rfl, h1, slc_len h2⟩
theorem Sl.form {w : World} {B : Nat} {v : Value} {ls : List (List UInt8)} (h : Sl w B v ls) : ∃ A c, v = .slice A ls.length c ∧ ls.length ≤ c ∧ ls.length ≤ 9223372036854775807 ∧ Slc w B 1 (.slice A ls.length c) ls.length (ls.map strV) := by
  obtain ⟨A, c, rfl, h1, h2⟩ := h
  exact ⟨A, c, rfl, h1, slc_len h2, h2⟩
end Go.Proofs.YtpclacofcfbpjaaDoor
