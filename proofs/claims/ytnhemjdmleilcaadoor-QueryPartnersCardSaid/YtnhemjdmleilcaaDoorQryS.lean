/- Queries as data, the error of a query, the parser as a state (fields left, failed), what Parse reads: plain functions on lists of bytes. No condition. -/
import Derived.Test.YtnhemjdmleilcaaDoorAddrI
namespace Go.Proofs.YtnhemjdmleilcaaDoor
open Go.RowKit

/-- A query: the twenty cells of its value. -/
structure Qr where
  kind : Int
  fr : List UInt8
  fi : List UInt8
  tr : List UInt8
  ti : List UInt8
  via : List UInt8
  la : Nat
  ll : Int
  ra : Nat
  rl : Int
  sa : Nat
  sl : Int
  da : Nat
  dl : Int
  proto : Int
  slo : Int
  shi : Int
  dlo : Int
  dhi : Int
  fails : Int
deriving DecidableEq

def Qr.zero : Qr := ⟨0, [], [], [], [], [], 0, 0, 0, 0, 0, 0, 0, 0, 0, 0, 0, 0, 0, 0⟩
def QV (q : Qr) : Value := .agg #[.int .i64 q.kind, strV q.fr, strV q.fi, strV q.tr, strV q.ti, strV q.via, .int .u32 (q.la : Int), .int .i64 q.ll, .int .u32 (q.ra : Int), .int .i64 q.rl,
  .int .u32 (q.sa : Int), .int .i64 q.sl, .int .u32 (q.da : Int), .int .i64 q.dl, .int .i64 q.proto, .int .i64 q.slo, .int .i64 q.shi, .int .i64 q.dlo, .int .i64 q.dhi, .int .i64 q.fails]
/-- The addresses of a query are numbers of 32 bits. -/
def Qr.fit (q : Qr) : Prop := q.la < 4294967296 ∧ q.ra < 4294967296 ∧ q.sa < 4294967296 ∧ q.da < 4294967296

def aimedB (k : Int) : Bool := k == 1 || k == 2 || k == 3
def optB (l : List UInt8) : Bool := l.isEmpty || nameB l
def portB (lo hi : Int) : Bool := decide (0 ≤ lo) && decide (lo ≤ hi) && decide (hi ≤ 65535)
def matchB (sa : Nat) (sl : Int) (da : Nat) (dl proto slo shi dlo dhi : Int) : Bool :=
  validP sa sl && validP da dl && decide (-1 ≤ proto) && decide (proto ≤ 255) && portB slo shi && portB dlo dhi
def zeroP (a : Nat) (n : Int) : Bool := a == 0 && n == 0

/-- The error of a query: 1 (ErrArg), 3 (ErrName), 0. -/
def validE (q : Qr) : Int :=
  if q.kind < 1 ∨ 6 < q.kind ∨ q.fails < 0 ∨ 2 < q.fails then 1
  else if !nameB q.fr || !optB q.fi then 3
  else if aimedB q.kind && (!nameB q.tr || !optB q.ti) then 3
  else if !aimedB q.kind && (!q.tr.isEmpty || !q.ti.isEmpty) then 1
  else if q.kind == 3 && !nameB q.via then 3
  else if q.kind != 3 && !q.via.isEmpty then 1
  else if q.kind == 6 && (!validP q.la q.ll || !validP q.ra q.rl || q.ll != q.rl) then 1
  else if q.kind != 6 && (!zeroP q.la q.ll || !zeroP q.ra q.rl) then 1
  else if !matchB q.sa q.sl q.da q.dl q.proto q.slo q.shi q.dlo q.dhi then 1
  else 0

/-- The parser: the fields that are left, and whether a field did not have the required form. -/
structure Ps where
  fs : List (List UInt8)
  bad : Bool

def accB (word : List UInt8) (p : Ps) : Bool := match p with
  | ⟨f :: _, false⟩ => f == word
  | _ => false
def Ps.fail (p : Ps) : Ps := ⟨p.fs, true⟩
def Ps.tail (p : Ps) : Ps := ⟨p.fs.tail, p.bad⟩
def accS (word : List UInt8) (p : Ps) : Ps := if accB word p then p.tail else p
def expS (word : List UInt8) (p : Ps) : Ps := if accB word p then p.tail else p.fail
def nxtV (p : Ps) : List UInt8 := match p with
  | ⟨f :: _, false⟩ => f
  | _ => []
def nxtS (p : Ps) : Ps := match p with
  | ⟨_ :: r, false⟩ => ⟨r, false⟩
  | _ => p.fail
def pfxV (p : Ps) : Nat × Int := (pfxA (nxtV p)).getD (0, 0)
def pfxS (p : Ps) : Ps := if (pfxA (nxtV p)).isSome then nxtS p else (nxtS p).fail
def numVP (p : Ps) : Int := numV (numIn (nxtV p) 0 4294967295)
def numS (p : Ps) : Ps := if (numIn (nxtV p) 0 4294967295).isSome then nxtS p else (nxtS p).fail

def wIface : List UInt8 := [105, 102, 97, 99, 101]
/-- A router and, if the word iface follows, an interface (behind the word that leads in). -/
def plcR (p : Ps) : List UInt8 := nxtV p
def plcI (p : Ps) : List UInt8 := if accB wIface (nxtS p) then nxtV (accS wIface (nxtS p)) else []
def plcS (p : Ps) : Ps := if accB wIface (nxtS p) then nxtS (accS wIface (nxtS p)) else nxtS p
def portV (word : List UInt8) (p : Ps) : Int × Int := if accB word p then (numVP (accS word p), numVP (numS (accS word p))) else (0, 65535)
def portS (word : List UInt8) (p : Ps) : Ps := if accB word p then numS (numS (accS word p)) else p

def kindWords : List (List UInt8) := [[100, 101, 108, 105, 118, 101, 114], [105, 115, 111, 108, 97, 116, 101], [116, 114, 97, 118, 101, 114, 115, 101], [108, 111, 111, 112, 108, 101, 115, 115], [104, 111, 108, 101, 108, 101, 115, 115], [101, 113, 117, 97, 116, 101]]
/-- The number of a kind's word; 0: none. -/
def kindGo : Int → List (List UInt8) → List UInt8 → Int
  | _, [], _ => 0
  | n, x :: r, s => if s == x then n else kindGo (n + 1) r s
def kindOf (s : List UInt8) : Int := kindGo 1 kindWords s

def wFrom : List UInt8 := [102, 114, 111, 109]
def wTo : List UInt8 := [116, 111]
def wVia : List UInt8 := [118, 105, 97]
def wLeft : List UInt8 := [108, 101, 102, 116]
def wRight : List UInt8 := [114, 105, 103, 104, 116]
def wSrc : List UInt8 := [115, 114, 99]
def wDst : List UInt8 := [100, 115, 116]
def wProto : List UInt8 := [112, 114, 111, 116, 111]
def wSport : List UInt8 := [115, 112, 111, 114, 116]
def wDport : List UInt8 := [100, 112, 111, 114, 116]
def wFails : List UInt8 := [102, 97, 105, 108, 117, 114, 101, 115]

/-- One step each: the query so far and the parser's state. -/
abbrev St := Qr × Ps
def stKind (p : Ps) : St := ({ Qr.zero with kind := kindOf (nxtV p) }, if kindOf (nxtV p) = 0 then (nxtS p).fail else nxtS p)
def stFrom (x : St) : St := let p := expS wFrom x.2; ({ x.1 with fr := plcR p, fi := plcI p }, plcS p)
def stTo (x : St) : St := if aimedB x.1.kind then let p := expS wTo x.2; ({ x.1 with tr := plcR p, ti := plcI p }, plcS p) else x
def stVia (x : St) : St := if x.1.kind = 3 then let p := expS wVia x.2; ({ x.1 with via := nxtV p }, nxtS p) else x
def stEq (x : St) : St := if x.1.kind = 6 then
    let p := expS wLeft x.2
    let p2 := expS wRight (pfxS p)
    ({ x.1 with la := (pfxV p).1, ll := (pfxV p).2, ra := (pfxV p2).1, rl := (pfxV p2).2 }, pfxS p2)
  else x
def stSrc (x : St) : St := if accB wSrc x.2 then let p := accS wSrc x.2; ({ x.1 with sa := (pfxV p).1, sl := (pfxV p).2 }, pfxS p) else x
def stDst (x : St) : St := if accB wDst x.2 then let p := accS wDst x.2; ({ x.1 with da := (pfxV p).1, dl := (pfxV p).2 }, pfxS p) else x
def stProto (x : St) : St := if accB wProto x.2 then let p := accS wProto x.2; ({ x.1 with proto := numVP p }, numS p) else ({ x.1 with proto := -1 }, x.2)
def stSport (x : St) : St := ({ x.1 with slo := (portV wSport x.2).1, shi := (portV wSport x.2).2 }, portS wSport x.2)
def stDport (x : St) : St := ({ x.1 with dlo := (portV wDport x.2).1, dhi := (portV wDport x.2).2 }, portS wDport x.2)
def stFails (x : St) : St := if accB wFails x.2 then let p := accS wFails x.2; ({ x.1 with fails := numVP p }, numS p) else x
def queryOf (p : Ps) : St := stFails (stDport (stSport (stProto (stDst (stSrc (stEq (stVia (stTo (stFrom (stKind p))))))))))

/-- The error of a text: 7, 2, 1, 3 or 0. -/
def parseE (l : List UInt8) : Int :=
  if linesErr l ≠ 0 then linesErr l
  else if (10 : UInt8) ∈ l then 2
  else
    let x := queryOf ⟨fieldsOf 35 l, false⟩
    if x.2.bad || !x.2.fs.isEmpty then 2 else validE x.1
def parseQ (l : List UInt8) : Qr := if parseE l = 0 then (queryOf ⟨fieldsOf 35 l, false⟩).1 else Qr.zero

theorem accB_bad (word : List UInt8) (fs : List (List UInt8)) : accB word ⟨fs, true⟩ = false := by cases fs <;> rfl
theorem nxtS_bad {p : Ps} (h : p.bad = true) : (nxtS p).bad = true := by
  obtain ⟨fs, b⟩ := p; cases h; cases fs <;> rfl
theorem accB_of_bad {word : List UInt8} {p : Ps} (h : p.bad = true) : accB word p = false := by
  obtain ⟨fs, b⟩ := p; cases h; exact accB_bad _ _
theorem expS_bad {word : List UInt8} {p : Ps} (h : p.bad = true) : (expS word p).bad = true := by
  unfold expS; rw [accB_of_bad h]; rfl
theorem pfxS_bad {p : Ps} (h : p.bad = true) : (pfxS p).bad = true := by
  unfold pfxS; split
  · exact nxtS_bad h
  · rfl
theorem plcS_bad {p : Ps} (h : p.bad = true) : (plcS p).bad = true := by
  unfold plcS; rw [accB_of_bad (nxtS_bad h)]; exact nxtS_bad h
theorem portS_bad {word : List UInt8} {p : Ps} (h : p.bad = true) : (portS word p).bad = true := by
  unfold portS; rw [accB_of_bad h]; exact h
theorem queryOf_bad {p : Ps} (h : kindOf (nxtV p) = 0) : (queryOf p).2.bad = true := by
  have h0 : (stKind p).2.bad = true := by unfold stKind; rw [if_pos h]; rfl
  have hF : ∀ x : St, x.2.bad = true → (stFrom x).2.bad = true := fun x h => plcS_bad (expS_bad h)
  have hT : ∀ x : St, x.2.bad = true → (stTo x).2.bad = true := by
    intro x h; unfold stTo; split
    · exact plcS_bad (expS_bad h)
    · exact h
  have hV : ∀ x : St, x.2.bad = true → (stVia x).2.bad = true := by
    intro x h; unfold stVia; split
    · exact nxtS_bad (expS_bad h)
    · exact h
  have hE : ∀ x : St, x.2.bad = true → (stEq x).2.bad = true := by
    intro x h; unfold stEq; split
    · exact pfxS_bad (expS_bad (pfxS_bad (expS_bad h)))
    · exact h
  have hS : ∀ x : St, x.2.bad = true → (stSrc x).2.bad = true := by
    intro x h; unfold stSrc; rw [accB_of_bad h]; exact h
  have hD : ∀ x : St, x.2.bad = true → (stDst x).2.bad = true := by
    intro x h; unfold stDst; rw [accB_of_bad h]; exact h
  have hP : ∀ x : St, x.2.bad = true → (stProto x).2.bad = true := by
    intro x h; unfold stProto; rw [accB_of_bad h]; exact h
  have h1 : ∀ x : St, x.2.bad = true → (stSport x).2.bad = true := fun x h => portS_bad h
  have h2 : ∀ x : St, x.2.bad = true → (stDport x).2.bad = true := fun x h => portS_bad h
  have h3 : ∀ x : St, x.2.bad = true → (stFails x).2.bad = true := by
    intro x h; unfold stFails; rw [accB_of_bad h]; exact h
  exact h3 _ (h2 _ (h1 _ (hP _ (hD _ (hS _ (hE _ (hV _ (hT _ (hF _ h0)))))))))
theorem pfxA_fit {l : List UInt8} {a : Nat} {n : Int} (h : pfxA l = some (a, n)) : a < 4294967296 ∧ validP a n = true := by
  unfold pfxA at h
  split at h
  · cases h
  · next b m hh =>
    split at h
    · next hv =>
      simp only [Option.some.injEq, Prod.mk.injEq] at h
      obtain ⟨rfl, rfl⟩ := h
      exact ⟨(hostA_lt hh).1, hv⟩
    · cases h
theorem pfxV_lt (p : Ps) : (pfxV p).1 < 4294967296 := by
  unfold pfxV
  cases h : pfxA (nxtV p) with
  | none => simp
  | some x => obtain ⟨a, n⟩ := x; exact (pfxA_fit h).1
theorem queryOf_fit (p : Ps) : (queryOf p).1.fit := by
  have h0 : (stKind p).1.fit := ⟨by simp [stKind, Qr.zero], by simp [stKind, Qr.zero], by simp [stKind, Qr.zero], by simp [stKind, Qr.zero]⟩
  have hF : ∀ x : St, x.1.fit → (stFrom x).1.fit := fun x h => h
  have hT : ∀ x : St, x.1.fit → (stTo x).1.fit := by
    intro x h; unfold stTo; split <;> exact h
  have hV : ∀ x : St, x.1.fit → (stVia x).1.fit := by
    intro x h; unfold stVia; split <;> exact h
  have hE : ∀ x : St, x.1.fit → (stEq x).1.fit := by
    intro x h; unfold stEq; split
    · exact ⟨pfxV_lt _, pfxV_lt _, h.2.2⟩
    · exact h
  have hS : ∀ x : St, x.1.fit → (stSrc x).1.fit := by
    intro x h; unfold stSrc; split
    · exact ⟨h.1, h.2.1, pfxV_lt _, h.2.2.2⟩
    · exact h
  have hD : ∀ x : St, x.1.fit → (stDst x).1.fit := by
    intro x h; unfold stDst; split
    · exact ⟨h.1, h.2.1, h.2.2.1, pfxV_lt _⟩
    · exact h
  have hP : ∀ x : St, x.1.fit → (stProto x).1.fit := by
    intro x h; unfold stProto; split <;> exact h
  have h1 : ∀ x : St, x.1.fit → (stSport x).1.fit := fun x h => h
  have h2 : ∀ x : St, x.1.fit → (stDport x).1.fit := fun x h => h
  have h3 : ∀ x : St, x.1.fit → (stFails x).1.fit := by
    intro x h; unfold stFails; split <;> exact h
  exact h3 _ (h2 _ (h1 _ (hP _ (hD _ (hS _ (hE _ (hV _ (hT _ (hF _ h0)))))))))

/-- No field is long. -/
def Ps.short (p : Ps) : Prop := ∀ f ∈ p.fs, f.length ≤ 1000000000
theorem nxtV_short {p : Ps} (h : p.short) : (nxtV p).length ≤ 1000000000 := by
  obtain ⟨fs, b⟩ := p
  unfold nxtV
  split
  · next f r e => cases e; exact h f (by simp)
  · simp
theorem short_tail {p : Ps} (h : p.short) : p.tail.short := fun f hf => h f (List.mem_of_mem_tail hf)
theorem short_nxt {p : Ps} (h : p.short) : (nxtS p).short := by
  obtain ⟨fs, b⟩ := p
  unfold nxtS
  split
  · next f r e => cases e; exact fun f hf => h f (by simp [hf])
  · exact h
end Go.Proofs.YtnhemjdmleilcaaDoor
