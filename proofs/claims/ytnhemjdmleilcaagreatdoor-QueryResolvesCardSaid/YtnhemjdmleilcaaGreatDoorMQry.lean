/- Queries as data, the error of a query, the parser as a state (fields left, failed), what Parse reads: plain functions on lists of bytes. No condition. -/
import Derived.Test.YtnhemjdmleilcaaGreatDoorMAddr
import Derived.Test.YtnhemjdmleilcaaGreatDoorMScan
import Derived.Lib.BufferMore
import Derived.Deep.AppendLies
import Derived.Deep.MidRow

namespace Go.Proofs.YtnhemjdmleilcaaGreatDoor
open Go.RowKit

/-- A query: the twenty cells of its value. -/
structure Qr where
  kind : Int
  fr : List UInt8
  fi : List UInt8
  tr : List UInt8
  ti : List UInt8
  via : List UInt8
  la : Nat
  ll : Int
  ra : Nat
  rl : Int
  sa : Nat
  sl : Int
  da : Nat
  dl : Int
  proto : Int
  slo : Int
  shi : Int
  dlo : Int
  dhi : Int
  fails : Int
deriving DecidableEq

def Qr.zero : Qr := ⟨0, [], [], [], [], [], 0, 0, 0, 0, 0, 0, 0, 0, 0, 0, 0, 0, 0, 0⟩
def QV (q : Qr) : Value := .agg #[.int .i64 q.kind, strV q.fr, strV q.fi, strV q.tr, strV q.ti, strV q.via, .int .u32 (q.la : Int), .int .i64 q.ll, .int .u32 (q.ra : Int), .int .i64 q.rl,
  .int .u32 (q.sa : Int), .int .i64 q.sl, .int .u32 (q.da : Int), .int .i64 q.dl, .int .i64 q.proto, .int .i64 q.slo, .int .i64 q.shi, .int .i64 q.dlo, .int .i64 q.dhi, .int .i64 q.fails]
/-- The addresses of a query are numbers of 32 bits. -/
def Qr.fit (q : Qr) : Prop := q.la < 4294967296 ∧ q.ra < 4294967296 ∧ q.sa < 4294967296 ∧ q.da < 4294967296

def aimedB (k : Int) : Bool := k == 1 || k == 2 || k == 3
def optB (l : List UInt8) : Bool := l.isEmpty || nameB l
def portB (lo hi : Int) : Bool := decide (0 ≤ lo) && decide (lo ≤ hi) && decide (hi ≤ 65535)
def matchB (sa : Nat) (sl : Int) (da : Nat) (dl proto slo shi dlo dhi : Int) : Bool :=
  validP sa sl && validP da dl && decide (-1 ≤ proto) && decide (proto ≤ 255) && portB slo shi && portB dlo dhi
def zeroP (a : Nat) (n : Int) : Bool := a == 0 && n == 0

/-- The error of a query: 1 (ErrArg), 3 (ErrName), 0. -/
def validE (q : Qr) : Int :=
  if q.kind < 1 ∨ 6 < q.kind ∨ q.fails < 0 ∨ 2 < q.fails then 1
  else if !nameB q.fr || !optB q.fi then 3
  else if aimedB q.kind && (!nameB q.tr || !optB q.ti) then 3
  else if !aimedB q.kind && (!q.tr.isEmpty || !q.ti.isEmpty) then 1
  else if q.kind == 3 && !nameB q.via then 3
  else if q.kind != 3 && !q.via.isEmpty then 1
  else if q.kind == 6 && (!validP q.la q.ll || !validP q.ra q.rl || q.ll != q.rl) then 1
  else if q.kind != 6 && (!zeroP q.la q.ll || !zeroP q.ra q.rl) then 1
  else if !matchB q.sa q.sl q.da q.dl q.proto q.slo q.shi q.dlo q.dhi then 1
  else 0

/-- The parser: the fields that are left, and whether a field did not have the required form. -/
structure Ps where
  fs : List (List UInt8)
  bad : Bool

def accB (word : List UInt8) (p : Ps) : Bool := match p with
  | ⟨f :: _, false⟩ => f == word
  | _ => false
def Ps.fail (p : Ps) : Ps := ⟨p.fs, true⟩
def Ps.tail (p : Ps) : Ps := ⟨p.fs.tail, p.bad⟩
def accS (word : List UInt8) (p : Ps) : Ps := if accB word p then p.tail else p
def expS (word : List UInt8) (p : Ps) : Ps := if accB word p then p.tail else p.fail
def nxtV (p : Ps) : List UInt8 := match p with
  | ⟨f :: _, false⟩ => f
  | _ => []
def nxtS (p : Ps) : Ps := match p with
  | ⟨_ :: r, false⟩ => ⟨r, false⟩
  | _ => p.fail
def pfxV (p : Ps) : Nat × Int := (pfxA (nxtV p)).getD (0, 0)
def pfxS (p : Ps) : Ps := if (pfxA (nxtV p)).isSome then nxtS p else (nxtS p).fail
def numVP (p : Ps) : Int := numV (numIn (nxtV p) 0 4294967295)
def numS (p : Ps) : Ps := if (numIn (nxtV p) 0 4294967295).isSome then nxtS p else (nxtS p).fail

def wIface : List UInt8 := [105, 102, 97, 99, 101]
/-- A router and, if the word iface follows, an interface (behind the word that leads in). -/
def plcR (p : Ps) : List UInt8 := nxtV p
def plcI (p : Ps) : List UInt8 := if accB wIface (nxtS p) then nxtV (accS wIface (nxtS p)) else []
def plcS (p : Ps) : Ps := if accB wIface (nxtS p) then nxtS (accS wIface (nxtS p)) else nxtS p
def portV (word : List UInt8) (p : Ps) : Int × Int := if accB word p then (numVP (accS word p), numVP (numS (accS word p))) else (0, 65535)
def portS (word : List UInt8) (p : Ps) : Ps := if accB word p then numS (numS (accS word p)) else p

def kindWords : List (List UInt8) := [[100, 101, 108, 105, 118, 101, 114], [105, 115, 111, 108, 97, 116, 101], [116, 114, 97, 118, 101, 114, 115, 101], [108, 111, 111, 112, 108, 101, 115, 115], [104, 111, 108, 101, 108, 101, 115, 115], [101, 113, 117, 97, 116, 101]]
/-- The number of a kind's word; 0: none. -/
def kindGo : Int → List (List UInt8) → List UInt8 → Int
  | _, [], _ => 0
  | n, x :: r, s => if s == x then n else kindGo (n + 1) r s
def kindOf (s : List UInt8) : Int := kindGo 1 kindWords s

def wFrom : List UInt8 := [102, 114, 111, 109]
def wTo : List UInt8 := [116, 111]
def wVia : List UInt8 := [118, 105, 97]
def wLeft : List UInt8 := [108, 101, 102, 116]
def wRight : List UInt8 := [114, 105, 103, 104, 116]
def wSrc : List UInt8 := [115, 114, 99]
def wDst : List UInt8 := [100, 115, 116]
def wProto : List UInt8 := [112, 114, 111, 116, 111]
def wSport : List UInt8 := [115, 112, 111, 114, 116]
def wDport : List UInt8 := [100, 112, 111, 114, 116]
def wFails : List UInt8 := [102, 97, 105, 108, 117, 114, 101, 115]

/-- One step each: the query so far and the parser's state. -/
abbrev St := Qr × Ps
def stKind (p : Ps) : St := ({ Qr.zero with kind := kindOf (nxtV p) }, if kindOf (nxtV p) = 0 then (nxtS p).fail else nxtS p)
def stFrom (x : St) : St := let p := expS wFrom x.2; ({ x.1 with fr := plcR p, fi := plcI p }, plcS p)
def stTo (x : St) : St := if aimedB x.1.kind then let p := expS wTo x.2; ({ x.1 with tr := plcR p, ti := plcI p }, plcS p) else x
def stVia (x : St) : St := if x.1.kind = 3 then let p := expS wVia x.2; ({ x.1 with via := nxtV p }, nxtS p) else x
def stEq (x : St) : St := if x.1.kind = 6 then
    let p := expS wLeft x.2
    let p2 := expS wRight (pfxS p)
    ({ x.1 with la := (pfxV p).1, ll := (pfxV p).2, ra := (pfxV p2).1, rl := (pfxV p2).2 }, pfxS p2)
  else x
def stSrc (x : St) : St := if accB wSrc x.2 then let p := accS wSrc x.2; ({ x.1 with sa := (pfxV p).1, sl := (pfxV p).2 }, pfxS p) else x
def stDst (x : St) : St := if accB wDst x.2 then let p := accS wDst x.2; ({ x.1 with da := (pfxV p).1, dl := (pfxV p).2 }, pfxS p) else x
def stProto (x : St) : St := if accB wProto x.2 then let p := accS wProto x.2; ({ x.1 with proto := numVP p }, numS p) else ({ x.1 with proto := -1 }, x.2)
def stSport (x : St) : St := ({ x.1 with slo := (portV wSport x.2).1, shi := (portV wSport x.2).2 }, portS wSport x.2)
def stDport (x : St) : St := ({ x.1 with dlo := (portV wDport x.2).1, dhi := (portV wDport x.2).2 }, portS wDport x.2)
def stFails (x : St) : St := if accB wFails x.2 then let p := accS wFails x.2; ({ x.1 with fails := numVP p }, numS p) else x
def queryOf (p : Ps) : St := stFails (stDport (stSport (stProto (stDst (stSrc (stEq (stVia (stTo (stFrom (stKind p))))))))))

/-- The error of a text: 7, 2, 1, 3 or 0. -/
def parseE (l : List UInt8) : Int :=
  if linesErr l ≠ 0 then linesErr l
  else if (10 : UInt8) ∈ l then 2
  else
    let x := queryOf ⟨fieldsOf 35 l, false⟩
    if x.2.bad || !x.2.fs.isEmpty then 2 else validE x.1
def parseQ (l : List UInt8) : Qr := if parseE l = 0 then (queryOf ⟨fieldsOf 35 l, false⟩).1 else Qr.zero

theorem accB_bad (word : List UInt8) (fs : List (List UInt8)) : accB word ⟨fs, true⟩ = false := by cases fs <;> rfl
theorem nxtS_bad {p : Ps} (h : p.bad = true) : (nxtS p).bad = true := by
  obtain ⟨fs, b⟩ := p; cases h; cases fs <;> rfl
theorem accB_of_bad {word : List UInt8} {p : Ps} (h : p.bad = true) : accB word p = false := by
  obtain ⟨fs, b⟩ := p; cases h; exact accB_bad _ _
theorem expS_bad {word : List UInt8} {p : Ps} (h : p.bad = true) : (expS word p).bad = true := by
  unfold expS; rw [accB_of_bad h]; rfl
theorem pfxS_bad {p : Ps} (h : p.bad = true) : (pfxS p).bad = true := by
  unfold pfxS; split
  · exact nxtS_bad h
  · rfl
theorem plcS_bad {p : Ps} (h : p.bad = true) : (plcS p).bad = true := by
  unfold plcS; rw [accB_of_bad (nxtS_bad h)]; exact nxtS_bad h
theorem portS_bad {word : List UInt8} {p : Ps} (h : p.bad = true) : (portS word p).bad = true := by
  unfold portS; rw [accB_of_bad h]; exact h
theorem queryOf_bad {p : Ps} (h : kindOf (nxtV p) = 0) : (queryOf p).2.bad = true := by
  have h0 : (stKind p).2.bad = true := by unfold stKind; rw [if_pos h]; rfl
  have hF : ∀ x : St, x.2.bad = true → (stFrom x).2.bad = true := fun x h => plcS_bad (expS_bad h)
  have hT : ∀ x : St, x.2.bad = true → (stTo x).2.bad = true := by
    intro x h; unfold stTo; split
    · exact plcS_bad (expS_bad h)
    · exact h
  have hV : ∀ x : St, x.2.bad = true → (stVia x).2.bad = true := by
    intro x h; unfold stVia; split
    · exact nxtS_bad (expS_bad h)
    · exact h
  have hE : ∀ x : St, x.2.bad = true → (stEq x).2.bad = true := by
    intro x h; unfold stEq; split
    · exact pfxS_bad (expS_bad (pfxS_bad (expS_bad h)))
    · exact h
  have hS : ∀ x : St, x.2.bad = true → (stSrc x).2.bad = true := by
    intro x h; unfold stSrc; rw [accB_of_bad h]; exact h
  have hD : ∀ x : St, x.2.bad = true → (stDst x).2.bad = true := by
    intro x h; unfold stDst; rw [accB_of_bad h]; exact h
  have hP : ∀ x : St, x.2.bad = true → (stProto x).2.bad = true := by
    intro x h; unfold stProto; rw [accB_of_bad h]; exact h
  have h1 : ∀ x : St, x.2.bad = true → (stSport x).2.bad = true := fun x h => portS_bad h
  have h2 : ∀ x : St, x.2.bad = true → (stDport x).2.bad = true := fun x h => portS_bad h
  have h3 : ∀ x : St, x.2.bad = true → (stFails x).2.bad = true := by
    intro x h; unfold stFails; rw [accB_of_bad h]; exact h
  exact h3 _ (h2 _ (h1 _ (hP _ (hD _ (hS _ (hE _ (hV _ (hT _ (hF _ h0)))))))))
theorem pfxA_fit {l : List UInt8} {a : Nat} {n : Int} (h : pfxA l = some (a, n)) : a < 4294967296 ∧ validP a n = true := by
  unfold pfxA at h
  split at h
  · cases h
  · next b m hh =>
    split at h
    · next hv =>
      simp only [Option.some.injEq, Prod.mk.injEq] at h
      obtain ⟨rfl, rfl⟩ := h
      exact ⟨(hostA_lt hh).1, hv⟩
    · cases h
theorem pfxV_lt (p : Ps) : (pfxV p).1 < 4294967296 := by
  unfold pfxV
  cases h : pfxA (nxtV p) with
  | none => simp
  | some x => obtain ⟨a, n⟩ := x; exact (pfxA_fit h).1
theorem queryOf_fit (p : Ps) : (queryOf p).1.fit := by
  have h0 : (stKind p).1.fit := ⟨by simp [stKind, Qr.zero], by simp [stKind, Qr.zero], by simp [stKind, Qr.zero], by simp [stKind, Qr.zero]⟩
  have hF : ∀ x : St, x.1.fit → (stFrom x).1.fit := fun x h => h
  have hT : ∀ x : St, x.1.fit → (stTo x).1.fit := by
    intro x h; unfold stTo; split <;> exact h
  have hV : ∀ x : St, x.1.fit → (stVia x).1.fit := by
    intro x h; unfold stVia; split <;> exact h
  have hE : ∀ x : St, x.1.fit → (stEq x).1.fit := by
    intro x h; unfold stEq; split
    · exact ⟨pfxV_lt _, pfxV_lt _, h.2.2⟩
    · exact h
  have hS : ∀ x : St, x.1.fit → (stSrc x).1.fit := by
    intro x h; unfold stSrc; split
    · exact ⟨h.1, h.2.1, pfxV_lt _, h.2.2.2⟩
    · exact h
  have hD : ∀ x : St, x.1.fit → (stDst x).1.fit := by
    intro x h; unfold stDst; split
    · exact ⟨h.1, h.2.1, h.2.2.1, pfxV_lt _⟩
    · exact h
  have hP : ∀ x : St, x.1.fit → (stProto x).1.fit := by
    intro x h; unfold stProto; split <;> exact h
  have h1 : ∀ x : St, x.1.fit → (stSport x).1.fit := fun x h => h
  have h2 : ∀ x : St, x.1.fit → (stDport x).1.fit := fun x h => h
  have h3 : ∀ x : St, x.1.fit → (stFails x).1.fit := by
    intro x h; unfold stFails; split <;> exact h
  exact h3 _ (h2 _ (h1 _ (hP _ (hD _ (hS _ (hE _ (hV _ (hT _ (hF _ h0)))))))))

/-- No field is long. -/
def Ps.short (p : Ps) : Prop := ∀ f ∈ p.fs, f.length ≤ 1000000000
theorem nxtV_short {p : Ps} (h : p.short) : (nxtV p).length ≤ 1000000000 := by
  obtain ⟨fs, b⟩ := p
  unfold nxtV
  split
  · next f r e => cases e; exact h f (by simp)
  · simp
theorem short_tail {p : Ps} (h : p.short) : p.tail.short := fun f hf => h f (List.mem_of_mem_tail hf)
theorem short_nxt {p : Ps} (h : p.short) : (nxtS p).short := by
  obtain ⟨fs, b⟩ := p
  unfold nxtS
  split
  · next f r e => cases e; exact fun f hf => h f (by simp [hf])
  · exact h
end Go.Proofs.YtnhemjdmleilcaaGreatDoor

/- The parser in memory, and the walks of its methods: accept, expect, next, prefix, number, place, ports (package query), is, word, take, prefix, number, place (the reference). Condition: no field is longer than 10^9 bytes. -/
namespace Go.Proofs.YtnhemjdmleilcaaGreatDoor
open Go.RowKit

/-- The parser p lies in block b (of type T); it and its fields lie below block G. -/
def PSt (T : TypeId) (b G : Nat) (p : Ps) (w : World) : Prop := b < G ∧ G ≤ w.heap.size ∧ ∃ v, w.heap[b]? = some (.cells #[v, .bool p.bad] T (0, 0)) ∧ Slc w G 1 v p.fs.length (p.fs.map strV) ∧ ∃ A c, v = .slice A p.fs.length c ∧ p.fs.length ≤ c

theorem grown_set (w : World) (b j : Nat) (u : Value) : w.grownBy (w.setCell ⟨b, j, none⟩ u) (some b) :=
  ⟨rfl, rfl, rfl, by simp [World.setCell], fun k _ hk => Below.heap_setCell _ _ _ k (fun e => hk (by rw [e]))⟩
theorem grown_below {w w' : World} {B : Nat} (hB : w.heap.size ≤ B) (h : Below B w w') (row : Option Nat) : w.grownBy w' row := ⟨h.os, h.tape, h.output, h.size, fun k hk _ => h.block k (by omega)⟩
theorem blk_lt {w : World} {b : Nat} {o : Obj} (h : w.heap[b]? = some o) : b < w.heap.size := by
  rcases Nat.lt_or_ge b w.heap.size with h' | h'
  · exact h'
  · rw [Array.getElem?_eq_none h'] at h; cases h
theorem Slc.grown {w w' : World} {B size n : Nat} {v : Value} {xs : List Value} (h : Slc w B size v n xs) {row : Option Nat} (hg : w.grownBy w' row)
    (hr : ∀ b, row = some b → ∀ g o c, v = .slice (some ⟨g, o, none⟩) n c → 0 < n → g ≠ b) : Slc w' B size v n xs := by
  obtain ⟨A, c, rfl, hm, hl, hA, h⟩ := h
  refine ⟨A, c, rfl, hm, hl, hA, fun hn => ?_⟩
  obtain ⟨g, o, rfl, hgB, hc⟩ := h hn
  refine ⟨g, o, rfl, hgB, fun j u hu => ?_⟩
  exact hg.cell (hc j u hu) (fun e => hr g e.symm g o c rfl hn rfl)
/-- The fields do not lie in the parser's own block. -/
theorem PSt.apart {T : TypeId} {b G : Nat} {p : Ps} {w : World} {v : Value} (hb : w.heap[b]? = some (.cells #[v, .bool p.bad] T (0, 0))) (hs : Slc w G 1 v p.fs.length (p.fs.map strV)) :
    ∀ g o c, v = .slice (some ⟨g, o, none⟩) p.fs.length c → 0 < p.fs.length → g ≠ b := by
  rintro g o c rfl hn rfl
  obtain ⟨A, c', e, hm, hl, hA, h⟩ := hs
  obtain ⟨g', o', rfl, hg, hc⟩ := h hn
  cases e
  obtain ⟨f, r, hf⟩ : ∃ f r, p.fs = f :: r := by
    cases hp : p.fs with
    | nil => rw [hp] at hn; exact absurd hn (by simp)
    | cons f r => exact ⟨f, r, rfl⟩
  have h0 := hc 0 (strV f) (by rw [hf]; rfl)
  rw [Lib.cell_of_heap hb] at h0
  match o, h0 with
  | 0, h0 => simp [strV] at h0
  | 1, h0 => simp [strV] at h0
  | k + 2, h0 => simp [strV] at h0
theorem PSt.keep {T : TypeId} {b G : Nat} {p : Ps} {w w' : World} (h : PSt T b G p w) (hb : Below G w w') : PSt T b G p w' := by
  obtain ⟨h1, h2, v, hv, hs, hc⟩ := h
  exact ⟨h1, Nat.le_trans h2 hb.size, v, (hb.block b h1).trans hv, hs.below hb, hc⟩
/-- The mark of a failure. -/
theorem PSt.failed {T : TypeId} {b G : Nat} {p : Ps} {w : World} (h : PSt T b G p w) : PSt T b G p.fail (w.setCell ⟨b, 1, none⟩ (.bool true)) ∧ w.grownBy (w.setCell ⟨b, 1, none⟩ (.bool true)) (some b) := by
  obtain ⟨h1, h2, v, hv, hs, hc⟩ := h
  have hg := grown_set w b 1 (.bool true)
  refine ⟨⟨h1, Nat.le_trans h2 hg.size, v, Lib.heap_setCell_same (i := 1) hv _, hs.grown hg ?_, hc⟩, hg⟩
  intro k hk g o c e hn
  cases hk
  exact PSt.apart hv hs g o c e hn
/-- The first field, and the parser without it. -/
theorem PSt.popped {T : TypeId} {b G : Nat} {f : List UInt8} {r : List (List UInt8)} {bad : Bool} {w : World} (h : PSt T b G ⟨f :: r, bad⟩ w) :
    ∃ g o c, w.heap[b]? = some (.cells #[.slice (some ⟨g, o, none⟩) (r.length + 1) c, .bool bad] T (0, 0)) ∧ w.cell? ⟨g, o, none⟩ = some (strV f) ∧ r.length + 1 ≤ c ∧ r.length + 1 ≤ maxLen ∧
      ∀ A', (c ≠ 1 → A' = some ⟨g, o + 1, none⟩) → A' ≠ none → PSt T b G ⟨r, bad⟩ (w.setCell ⟨b, 0, none⟩ (.slice A' r.length (c - 1))) ∧ w.grownBy (w.setCell ⟨b, 0, none⟩ (.slice A' r.length (c - 1))) (some b) := by
  obtain ⟨h1, h2, v, hv, hs, A, c, rfl, hc⟩ := h
  have hap := PSt.apart hv hs
  obtain ⟨A0, c0, e, hm, hl, hA, hx⟩ := hs
  cases e
  obtain ⟨g, o, rfl, hg, hcell⟩ := hx (by simp)
  have hgb : g ≠ b := hap g o c rfl (by simp)
  have hgr := fun u => grown_set w b 0 u
  refine ⟨g, o, c, hv, by simpa using hcell 0 (strV f) rfl, by simpa using hc, by simpa using hm, fun A' hA' hn => ⟨⟨h1, Nat.le_trans h2 (hgr _).size, _, Lib.heap_setCell_same (i := 0) hv _, ?_, A', c - 1, rfl, ?_⟩, hgr _⟩⟩
  · refine ⟨A', c - 1, rfl, ?_, by simp, fun h => absurd h hn, fun hr => ⟨g, o + 1, hA' ?_, hg, fun j u hu => ?_⟩⟩
    · simp only [List.length_cons] at hm; show r.length ≤ _; omega
    · simp only [List.length_cons] at hc; have : 0 < r.length := hr; omega
    · have := hcell (j + 1) u (by simpa using hu)
      refine (hgr _).cell (a := ⟨g, o + 1 + j, none⟩) ?_ (fun e => hgb (by injection e))
      rw [show o + 1 + j = o + (j + 1) from by omega]
      exact this
  · simp only [List.length_cons] at hc; show r.length ≤ _; omega
end Go.Proofs.YtnhemjdmleilcaaGreatDoor

/- The walks of the parser's methods accept, expect, next, and of the reader's is, word, take. No condition. -/
namespace Go.Proofs.YtnhemjdmleilcaaGreatDoor
open Go.RowKit

/-- What a method that answers v and leaves the parser as p' promises. -/
def PPost (T : TypeId) (b G : Nat) (v : Value) (p' : Ps) (w : World) (e : Ending) (w' : World) : Prop := e = .returned v ∧ PSt T b G p' w' ∧ w.grownBy w' (some b)

theorem str_ne {f : List UInt8} {s : ByteArray} (h : ¬ str f = s) : ((str f).toList == s.toList) = false := by
  simp only [Go.ByteArray.toList_eq, beq_eq_false_iff_ne, ne_eq]
  intro e
  exact h (ByteArray.ext (Array.ext' e))
theorem acc_yes {f : List UInt8} {s : ByteArray} (r : List (List UInt8)) (he : str f = s) : accB (bytes s) ⟨f :: r, false⟩ = true ∧ accS (bytes s) ⟨f :: r, false⟩ = ⟨r, false⟩ := by
  subst he
  have h : accB (bytes (str f)) ⟨f :: r, false⟩ = true := by rw [bytes_str]; simp [accB]
  exact ⟨h, by unfold accS; rw [h]; rfl⟩
theorem acc_no {f : List UInt8} {s : ByteArray} (r : List (List UInt8)) (he : ¬ str f = s) : accB (bytes s) ⟨f :: r, false⟩ = false ∧ accS (bytes s) ⟨f :: r, false⟩ = ⟨f :: r, false⟩ := by
  have h : accB (bytes s) ⟨f :: r, false⟩ = false := by
    simp only [accB, beq_eq_false_iff_ne, ne_eq]
    intro e; subst e; exact he (str_bytes s)
  exact ⟨h, by unfold accS; rw [h]; rfl⟩

theorem accept_any (b G : Nat) (p : Ps) (s : ByteArray) (w : World) (h : PSt 86 b G p w) :
    Calls Tryz.prog 62 #[.pointer (some ⟨b, 0, none⟩), .string s] w (PPost 86 b G (.bool (accB (bytes s) p)) (accS (bytes s) p) w) := by
  obtain ⟨fs, bad⟩ := p
  have H := Lib.hid h
  cases bad with
  | true =>
    obtain ⟨-, -, v, hv, -⟩ := h
    have c1 : w.cell? ⟨b, 1, none⟩ = some (.bool true) := by rw [Lib.cell_of_heap hv]; rfl
    have E : Hid (accB (bytes s) ⟨fs, true⟩ = false) := Lib.hid (accB_bad _ _)
    clear hv
    go_enter Tryz.func62, Tryz.ntmps62
    go_wp2_with fail
    go_ret
    refine ⟨ret_bool E.out.symm, ?_, World.grownBy.refl _ _⟩
    unfold accS; rw [E.out]; exact H.out
  | false =>
    cases fs with
    | nil =>
      obtain ⟨-, -, v, hv, -, A, c, rfl, -⟩ := h
      have c0 : w.cell? ⟨b, 0, none⟩ = some (.slice A 0 c) := by rw [Lib.cell_of_heap hv]; rfl
      have c1 : w.cell? ⟨b, 1, none⟩ = some (.bool false) := by rw [Lib.cell_of_heap hv]; rfl
      clear hv
      go_enter Tryz.func62, Tryz.ntmps62
      go_wp2_with fail
      go_ret
      exact ⟨rfl, H.out, World.grownBy.refl _ _⟩
    | cons f r =>
      obtain ⟨g, o, c, hv, hf, hc, hm, hpop⟩ := PSt.popped h
      have c0 : w.cell? ⟨b, 0, none⟩ = some (.slice (some ⟨g, o, none⟩) (r.length + 1) c) := by rw [Lib.cell_of_heap hv]; rfl
      have c1 : w.cell? ⟨b, 1, none⟩ = some (.bool false) := by rw [Lib.cell_of_heap hv]; rfl
      have f0 : w.frozen? ⟨b, 0, none⟩ = false := Lib.frozen_of_heap hv 0
      have HP := Lib.hid hpop
      clear hv hpop h
      unfold strV at hf
      unfold maxLen at hm
      by_cases he : str f = s
      · have E := Lib.hid (acc_yes r he)
        go_enter Tryz.func62, Tryz.ntmps62
        go_wp2_with fail
        · go_ret
          subst h
          refine ⟨ret_bool E.out.1.symm, ?_⟩
          rw [E.out.2]
          exact HP.out (some ⟨g, o, none⟩) (fun h' => absurd rfl h') (by simp)
        · go_ret
          refine ⟨ret_bool E.out.1.symm, ?_⟩
          rw [E.out.2]
          exact HP.out (some ⟨g, o + 1, none⟩) (fun _ => rfl) (by simp)
      · have E := Lib.hid (acc_no r he)
        have hne := str_ne he
        clear he
        go_enter Tryz.func62, Tryz.ntmps62
        go_wp2_with fail
        go_ret
        refine ⟨ret_bool E.out.1.symm, ?_, World.grownBy.refl _ _⟩
        rw [E.out.2]
        exact H.out

theorem expect_any (b G : Nat) (p : Ps) (s : ByteArray) (w : World) (h : PSt 86 b G p w) :
    Calls Tryz.prog 59 #[.pointer (some ⟨b, 0, none⟩), .string s] w (PPost 86 b G (.tuple #[]) (expS (bytes s) p) w) := by
  have HA := Lib.hid (accept_any b G p s w h)
  clear h
  cases ha : accB (bytes s) p with
  | true =>
    have E : Hid (expS (bytes s) p = accS (bytes s) p) := Lib.hid (by unfold expS accS; rw [ha]; rfl)
    rw [ha] at HA
    clear ha
    go_enter Tryz.func59, Tryz.ntmps59
    go_wp2_with fail
    refine HA.out.mono ?_
    rintro e w1 ⟨rfl, h1, h2⟩
    go_wp2_with fail
    go_end0
    exact ⟨rfl, by rw [E.out]; exact h1, h2⟩
  | false =>
    have E : Hid (expS (bytes s) p = (accS (bytes s) p).fail) := Lib.hid (by unfold expS accS; rw [ha]; rfl)
    rw [ha] at HA
    clear ha
    go_enter Tryz.func59, Tryz.ntmps59
    go_wp2_with fail
    refine HA.out.mono ?_
    rintro e w1 ⟨rfl, h1, h2⟩
    have HF := Lib.hid h1.failed
    obtain ⟨-, -, v, hv, -⟩ := h1
    have c1 : w1.cell? ⟨b, 1, none⟩ = some (.bool (accS (bytes s) p).bad) := by rw [Lib.cell_of_heap hv]; rfl
    have f1 : w1.frozen? ⟨b, 1, none⟩ = false := Lib.frozen_of_heap hv 1
    clear hv
    go_wp2_with fail
    go_end0
    exact ⟨rfl, by rw [E.out]; exact HF.out.1, h2.trans HF.out.2⟩

theorem next_any (b G : Nat) (p : Ps) (w : World) (h : PSt 86 b G p w) :
    Calls Tryz.prog 60 #[.pointer (some ⟨b, 0, none⟩)] w (PPost 86 b G (strV (nxtV p)) (nxtS p) w) := by
  obtain ⟨fs, bad⟩ := p
  have HF := Lib.hid h.failed
  cases bad with
  | true =>
    have E : Hid (nxtV ⟨fs, true⟩ = [] ∧ nxtS ⟨fs, true⟩ = (⟨fs, true⟩ : Ps).fail) := Lib.hid (by cases fs <;> exact ⟨rfl, rfl⟩)
    have HP := Lib.hid h
    obtain ⟨-, -, v, hv, -, A, c, rfl, -⟩ := h
    have c0 : w.cell? ⟨b, 0, none⟩ = some (.slice A fs.length c) := by rw [Lib.cell_of_heap hv]; rfl
    have c1 : w.cell? ⟨b, 1, none⟩ = some (.bool true) := by rw [Lib.cell_of_heap hv]; rfl
    have f1 : w.frozen? ⟨b, 1, none⟩ = false := Lib.frozen_of_heap hv 1
    clear hv
    go_enter Tryz.func60, Tryz.ntmps60
    go_wp2_with fail
    all_goals
      go_ret
      refine ⟨by rw [E.out.1]; rfl, ?_⟩
      rw [E.out.2]
      first | exact HF.out | exact ⟨HP.out, World.grownBy.refl _ _⟩
  | false =>
    cases fs with
    | nil =>
      obtain ⟨-, -, v, hv, -, A, c, rfl, -⟩ := h
      have c0 : w.cell? ⟨b, 0, none⟩ = some (.slice A 0 c) := by rw [Lib.cell_of_heap hv]; rfl
      have c1 : w.cell? ⟨b, 1, none⟩ = some (.bool false) := by rw [Lib.cell_of_heap hv]; rfl
      have f1 : w.frozen? ⟨b, 1, none⟩ = false := Lib.frozen_of_heap hv 1
      have d1 : (w.setCell ⟨b, 1, none⟩ (.bool true)).cell? ⟨b, 1, none⟩ = some (.bool true) := by rw [Lib.cell_of_heap (Lib.heap_setCell_same (i := 1) hv _)]; rfl
      clear hv
      go_enter Tryz.func60, Tryz.ntmps60
      go_wp2_with fail
      go_ret
      exact ⟨rfl, HF.out⟩
    | cons f r =>
      obtain ⟨g, o, c, hv, hf, hc, hm, hpop⟩ := PSt.popped h
      have c0 : w.cell? ⟨b, 0, none⟩ = some (.slice (some ⟨g, o, none⟩) (r.length + 1) c) := by rw [Lib.cell_of_heap hv]; rfl
      have c1 : w.cell? ⟨b, 1, none⟩ = some (.bool false) := by rw [Lib.cell_of_heap hv]; rfl
      have f0 : w.frozen? ⟨b, 0, none⟩ = false := Lib.frozen_of_heap hv 0
      have HP := Lib.hid hpop
      clear hv hpop h HF
      unfold strV at hf
      unfold maxLen at hm
      go_enter Tryz.func60, Tryz.ntmps60
      go_wp2_with fail
      · go_ret
        subst h
        exact ⟨rfl, HP.out (some ⟨g, o, none⟩) (fun h' => absurd rfl h') (by simp)⟩
      · go_ret
        exact ⟨rfl, HP.out (some ⟨g, o + 1, none⟩) (fun _ => rfl) (by simp)⟩

end Go.Proofs.YtnhemjdmleilcaaGreatDoor

/- The walks of the parser's methods number and prefix, and of the reader's. Conditions: no field is longer than 10^9 bytes; Go's own tables lie below the parser (EnvB). -/
namespace Go.Proofs.YtnhemjdmleilcaaGreatDoor
open Go.RowKit

/-- What the walks ask of package-level variables: they lie below block B. -/
def EnvB (B : Nat) (w : World) : Prop := Env w ∧ 1 < B ∧ 2 < B ∧ 0 < B ∧ ∀ j x, kindWords[j]? = some x → w.cell? ⟨0, j, none⟩ = some (strV x)
theorem EnvB.keep {B : Nat} {w w' : World} (h : EnvB B w) (hb : Below B w w') : EnvB B w' := by
  obtain ⟨⟨⟨m, hm⟩, ht, h1, h2⟩, hB1, hB2, hB3, hw⟩ := h
  refine ⟨⟨⟨m, ?_⟩, var?_below hb Tryz.gPow hB2 ht, Nat.lt_of_lt_of_le h1 hb.size, Nat.lt_of_lt_of_le h2 hb.size⟩, hB1, hB2, hB3, fun j x hx => ?_⟩
  · rw [hb.cell (p := ⟨1, 0, none⟩) hB1]; exact hm
  · rw [hb.cell (p := ⟨0, j, none⟩) hB3]; exact hw j x hx
theorem below_of_grown {B b : Nat} {w w' : World} (h : w.grownBy w' (some b)) (hB : B ≤ b) (hw : B ≤ w.heap.size) : Below B w w' :=
  ⟨h.os, h.tape, h.output, h.size, fun k hk => h.block k (by omega) (fun e => by cases e; omega)⟩

theorem PSt.bad1 {T : TypeId} {b G : Nat} {p : Ps} {w : World} (h : PSt T b G p w) : w.cell? ⟨b, 1, none⟩ = some (.bool p.bad) := by
  obtain ⟨-, -, v, hv, -⟩ := h; rw [Lib.cell_of_heap hv]; rfl
theorem PSt.frz {T : TypeId} {b G : Nat} {p : Ps} {w : World} (h : PSt T b G p w) (j : Nat) : w.frozen? ⟨b, j, none⟩ = false := by
  obtain ⟨-, -, v, hv, -⟩ := h; exact Lib.frozen_of_heap hv j
theorem grown_tail {w w1 w2 : World} {row : Option Nat} (h : w.grownBy w1 row) (hb : Below w.heap.size w1 w2) : w.grownBy w2 row :=
  ⟨hb.os.trans h.os, hb.tape.trans h.tape, hb.output.trans h.output, Nat.le_trans h.size hb.size, fun k hk hr => (hb.block k hk).trans (h.block k hk hr)⟩
/-- The box of a result, laid ahead of a call on the parser. -/
theorem far_box {w w1 : World} {b : Nat} {x y : Value} {t : TypeId} (h : (w.alloc (.cells #[x, y] t)).grownBy w1 (some b)) (hb : b < w.heap.size) :
    w.heap.size + 1 ≤ w1.heap.size ∧ w1.cell? ⟨w.heap.size, 0, none⟩ = some x ∧ w1.cell? ⟨w.heap.size, 1, none⟩ = some y ∧ ∀ j, w1.frozen? ⟨w.heap.size, j, none⟩ = false := by
  have hne : some w.heap.size ≠ some b := fun e => by injection e; omega
  refine ⟨by have := h.size; simpa using this, ?_, ?_, fun j => ?_⟩
  · rw [h.cell_far ⟨w.heap.size, 0, none⟩ (by simp) hne, new_cell]; rfl
  · rw [h.cell_far ⟨w.heap.size, 1, none⟩ (by simp) hne, new_cell]; rfl
  · rw [h.frozen_far ⟨w.heap.size, j, none⟩ (by simp) hne]; exact World.frozen?_alloc_at _ _ _ _ rfl
theorem far_below {w1 w2 : World} {g : Nat} {x y : Value} (hb : Below w1.heap.size w1 w2) (hz : g + 1 ≤ w1.heap.size) (c0 : w1.cell? ⟨g, 0, none⟩ = some x) (c1 : w1.cell? ⟨g, 1, none⟩ = some y) (f : ∀ j, w1.frozen? ⟨g, j, none⟩ = false) :
    g + 1 ≤ w2.heap.size ∧ w2.cell? ⟨g, 0, none⟩ = some x ∧ w2.cell? ⟨g, 1, none⟩ = some y ∧ ∀ j, w2.frozen? ⟨g, j, none⟩ = false :=
  ⟨Nat.le_trans hz hb.size, (hb.cell (p := ⟨g, 0, none⟩) (by show g < _; omega)).trans c0, (hb.cell (p := ⟨g, 1, none⟩) (by show g < _; omega)).trans c1, fun j => (hb.frozen (p := ⟨g, j, none⟩) (by show g < _; omega)).trans (f j)⟩
theorem env_on {B b : Nat} {w w1 : World} {o : Obj} (he : EnvB B w) (h : (w.alloc o).grownBy w1 (some b)) (hB : B ≤ b) (hb : b < w.heap.size) : Env w1 :=
  ((he.keep ((Below.refl B w).alloc (by omega) o)).keep (below_of_grown h hB (by simp; omega))).1
theorem pfx_end {T : TypeId} {b G : Nat} {p : Ps} {w w1 w2 w3 : World} {o : Obj} (h1 : PSt T b G p w1) (h2 : (w.alloc o).grownBy w1 (some b)) (hb2 : Below w1.heap.size w1 w2) (hG : G ≤ w.heap.size) (hz : w.heap.size + 1 ≤ w1.heap.size) (hb3 : Below w.heap.size w2 w3) :
    PSt T b G p w3 ∧ w.grownBy w3 (some b) := by
  have h := (hb2.mono (by omega)).trans hb3
  exact ⟨h1.keep (h.mono hG), grown_tail ((World.grownBy_alloc w o _).trans h2) h⟩
theorem pfx_mid {T : TypeId} {b G : Nat} {p : Ps} {w w1 w2 : World} {o : Obj} (h1 : PSt T b G p w1) (h2 : (w.alloc o).grownBy w1 (some b)) (hb2 : Below w1.heap.size w1 w2) (hG : G ≤ w.heap.size) (hz : w.heap.size + 1 ≤ w1.heap.size) (o' : Obj) :
    PSt T b G p (w2.alloc o') ∧ w.grownBy (w2.alloc o') (some b) :=
  pfx_end h1 h2 hb2 hG hz ((Below.refl _ w2).alloc (by have := hb2.size; omega) o')
theorem pfx_fail {T : TypeId} {b G : Nat} {p : Ps} {w W : World} (q : PSt T b G p W ∧ w.grownBy W (some b)) (hG : G ≤ w.heap.size) (x y : Value) :
    PSt T b G p.fail (((W.setCell ⟨b, 1, none⟩ (.bool true)).setCell ⟨w.heap.size, 0, none⟩ x).setCell ⟨w.heap.size, 1, none⟩ y) ∧ w.grownBy (((W.setCell ⟨b, 1, none⟩ (.bool true)).setCell ⟨w.heap.size, 0, none⟩ x).setCell ⟨w.heap.size, 1, none⟩ y) (some b) := by
  obtain ⟨q3, q4⟩ := q.1.failed
  have hset := ((Below.refl w.heap.size (W.setCell ⟨b, 1, none⟩ (.bool true))).setCell (p := ⟨w.heap.size, 0, none⟩) (Nat.le_refl _) x).setCell (p := ⟨w.heap.size, 1, none⟩) (Nat.le_refl _) y
  exact ⟨q3.keep (hset.mono hG), grown_tail (q.2.trans q4) hset⟩

theorem pnumber_any (b G : Nat) (p : Ps) (w : World) (h : PSt 86 b G p w) :
    Calls Tryz.prog 63 #[.pointer (some ⟨b, 0, none⟩)] w (PPost 86 b G (.int .i64 (numVP p)) (numS p) w) := by
  have HA := Lib.hid (next_any b G p w h)
  have HN := Lib.hid (fun w => number_any (str (nxtV p)) 0 4294967295 w)
  rw [bytes_str] at HN
  clear h
  unfold strV at HA
  cases hn : numIn (nxtV p) 0 4294967295 with
  | some x =>
    have E : Hid (numS p = nxtS p ∧ numVP p = x) := Lib.hid (by unfold numS numVP; rw [hn]; exact ⟨rfl, rfl⟩)
    rw [hn] at HN
    simp only [numV, Option.getD_some, Option.isSome_some] at HN
    clear hn
    go_enter Tryz.func63, Tryz.ntmps63
    go_wp2_with fail
    refine HA.out.mono ?_
    rintro e w1 ⟨rfl, h1, h2⟩
    go_wp2_with fail
    refine (HN.out w1).mono ?_
    rintro e w2 ⟨rfl, rfl⟩
    go_wp2_with fail
    go_ret
    exact ⟨by rw [E.out.2]; rfl, by rw [E.out.1]; exact h1, h2⟩
  | none =>
    have E : Hid (numS p = (nxtS p).fail ∧ numVP p = 0) := Lib.hid (by unfold numS numVP; rw [hn]; exact ⟨rfl, rfl⟩)
    rw [hn] at HN
    simp only [numV, Option.getD_none, Option.isSome_none] at HN
    clear hn
    go_enter Tryz.func63, Tryz.ntmps63
    go_wp2_with fail
    refine HA.out.mono ?_
    rintro e w1 ⟨rfl, h1, h2⟩
    go_wp2_with fail
    refine (HN.out w1).mono ?_
    rintro e w2 ⟨rfl, rfl⟩
    have HF := Lib.hid h1.failed
    obtain ⟨-, -, v, hv, -⟩ := h1
    have c1 : w1.cell? ⟨b, 1, none⟩ = some (.bool (nxtS p).bad) := by rw [Lib.cell_of_heap hv]; rfl
    have f1 : w1.frozen? ⟨b, 1, none⟩ = false := Lib.frozen_of_heap hv 1
    clear hv
    go_wp2_with fail
    go_ret
    exact ⟨by rw [E.out.2]; rfl, by rw [E.out.1]; exact HF.out.1, h2.trans HF.out.2⟩

set_option maxHeartbeats 1000000 in
theorem pprefix_any (b G B : Nat) (p : Ps) (w : World) (h : PSt 86 b G p w) (he : EnvB B w) (hB : B ≤ b) (hs : p.short) :
    Calls Tryz.prog 61 #[.pointer (some ⟨b, 0, none⟩)] w (PPost 86 b G (PV (pfxV p).1 (pfxV p).2) (pfxS p) w) := by
  have hbG := h.1
  have hGw := h.2.1
  have hss : (str (nxtV p)).size ≤ 1000000000 := by rw [str_size]; exact nxtV_short hs
  have HP : Hid (∀ w, Env w → Calls Tryz.prog 93 #[.string (str (nxtV p))] w (PfxPost (pfxA (bytes (str (nxtV p)))) w)) := Lib.hid (fun w he => parsePrefix_any (str (nxtV p)) w he hss)
  rw [bytes_str] at HP
  have H := Lib.hid h
  have HE := Lib.hid he
  have HA := Lib.hid (fun w h => next_any b G p w h)
  unfold strV at HA
  clear h he hs hss
  cases hn : pfxA (nxtV p) with
  | some x =>
    obtain ⟨a, n⟩ := x
    have E : Hid (pfxS p = nxtS p ∧ pfxV p = (a, n)) := Lib.hid (by unfold pfxS pfxV; rw [hn]; exact ⟨rfl, rfl⟩)
    rw [hn] at HP
    clear hn
    go_enter Tryz.func61, Tryz.ntmps61
    go_wp2_with fail
    refine (HA.out _ (H.out.keep ((Below.refl _ w).alloc hGw _))).mono ?_
    rintro e w1 ⟨rfl, h1, h2⟩
    have H1 := Lib.hid h1
    have H2 := Lib.hid h2
    obtain ⟨hz1, c0, c1, f0⟩ := far_box h2 (by omega)
    clear h1 h2
    go_wp2_with fail
    refine (HP.out w1 (env_on HE.out H2.out hB (by omega))).mono ?_
    rintro e w2 ⟨rfl, hb2⟩
    obtain ⟨hz2, d0, d1, g0⟩ := far_below hb2 hz1 c0 c1 f0
    have HB2 := Lib.hid hb2
    clear hb2 c0 c1 f0
    have c0' := cell_alloc' hz2 d0
    have c1' := cell_alloc' hz2 d1
    have f0' := frozen_alloc' hz2 g0
    unfold PV
    simp only [Option.getD_some, Option.isSome_some]
    go_wp2_with fail
    refine bodyPost_ret (v := PV a n) (by simp [results, Tryz.results61, go_sem, PV, *]) rfl ⟨by rw [E.out.2], ?_⟩
    rw [E.out.1]
    have hG2 : G ≤ w2.heap.size := by omega
    refine pfx_end H1.out H2.out HB2.out hGw hz1 ?_
    exact (((Below.refl w.heap.size w2).alloc (by omega) _).setCell (p := ⟨w.heap.size, 0, none⟩) (Nat.le_refl _) _).setCell (p := ⟨w.heap.size, 1, none⟩) (Nat.le_refl _) _
  | none =>
    have E : Hid (pfxS p = (nxtS p).fail ∧ pfxV p = (0, 0)) := Lib.hid (by unfold pfxS pfxV; rw [hn]; exact ⟨rfl, rfl⟩)
    rw [hn] at HP
    clear hn
    go_enter Tryz.func61, Tryz.ntmps61
    go_wp2_with fail
    refine (HA.out _ (H.out.keep ((Below.refl _ w).alloc hGw _))).mono ?_
    rintro e w1 ⟨rfl, h1, h2⟩
    have H1 := Lib.hid h1
    have H2 := Lib.hid h2
    obtain ⟨hz1, c0, c1, f0⟩ := far_box h2 (by omega)
    clear h1 h2
    go_wp2_with fail
    refine (HP.out w1 (env_on HE.out H2.out hB (by omega))).mono ?_
    rintro e w2 ⟨rfl, hb2⟩
    obtain ⟨hz2, d0, d1, g0⟩ := far_below hb2 hz1 c0 c1 f0
    have HB2 := Lib.hid hb2
    have H3 := Lib.hid (fun o => pfx_mid H1.out H2.out hb2 hGw hz1 o)
    clear hb2 c0 c1 f0
    have c0' := cell_alloc' hz2 d0
    have c1' := cell_alloc' hz2 d1
    have f0' := frozen_alloc' hz2 g0
    have k1 : ∀ o, (w2.alloc o).cell? ⟨b, 1, none⟩ = some (.bool (nxtS p).bad) := fun o => (H3.out o).1.bad1
    have l1 : ∀ o, (w2.alloc o).frozen? ⟨b, 1, none⟩ = false := fun o => (H3.out o).1.frz 1
    unfold PV
    simp only [Option.getD_none, Option.isSome_none]
    go_wp2_with fail
    refine bodyPost_ret (v := PV 0 0) (by simp [results, Tryz.results61, go_sem, PV, *]) rfl ⟨by rw [E.out.2], ?_⟩
    rw [E.out.1]
    exact pfx_fail (H3.out _) hGw _ _

end Go.Proofs.YtnhemjdmleilcaaGreatDoor

/- The walks of the parser's methods place, ports, kind, and of the reader's place. Conditions: as in QryC. -/
namespace Go.Proofs.YtnhemjdmleilcaaGreatDoor
open Go.RowKit

set_option maxHeartbeats 1000000 in
theorem pplace_any (b G : Nat) (p : Ps) (s : ByteArray) (w : World) (h : PSt 86 b G p w) :
    Calls Tryz.prog 58 #[.pointer (some ⟨b, 0, none⟩), .string s] w (PPost 86 b G (.tuple #[strV (plcR (expS (bytes s) p)), strV (plcI (expS (bytes s) p))]) (plcS (expS (bytes s) p)) w) := by
  have H := Lib.hid h
  clear h
  have HA := Lib.hid (fun p w h => accept_any b G p ⟨#[105, 102, 97, 99, 101]⟩ w h)
  have HN := Lib.hid (fun p w h => next_any b G p w h)
  unfold strV at HN
  cases hi : accB wIface (nxtS (expS (bytes s) p)) with
  | true =>
    have hi' : Hid (accB (bytes ⟨#[105, 102, 97, 99, 101]⟩) (nxtS (expS (bytes s) p)) = true) := Lib.hid hi
    have E : Hid (plcI (expS (bytes s) p) = nxtV (accS wIface (nxtS (expS (bytes s) p))) ∧ plcS (expS (bytes s) p) = nxtS (accS wIface (nxtS (expS (bytes s) p)))) := Lib.hid (by unfold plcI plcS; rw [hi]; exact ⟨rfl, rfl⟩)
    clear hi
    go_enter Tryz.func58, Tryz.ntmps58
    go_wp2_with fail
    refine (expect_any b G p s w H.out).mono ?_
    rintro e w1 ⟨rfl, g1, k1⟩
    go_wp2_with fail
    refine (HN.out _ _ g1).mono ?_
    rintro e w2 ⟨rfl, g2, k2⟩
    go_wp2_with fail
    refine (HA.out _ _ g2).mono ?_
    rintro e w3 ⟨rfl, g3, k3⟩
    rw [hi'.out]
    go_wp2_with fail
    refine (HN.out _ _ g3).mono ?_
    rintro e w4 ⟨rfl, g4, k4⟩
    go_wp2_with fail
    go_ret2
    exact ⟨by rw [E.out.1]; rfl, by rw [E.out.2]; exact g4, ((k1.trans k2).trans k3).trans k4⟩
  | false =>
    have hi' : Hid (accB (bytes ⟨#[105, 102, 97, 99, 101]⟩) (nxtS (expS (bytes s) p)) = false) := Lib.hid hi
    have E : Hid (plcI (expS (bytes s) p) = [] ∧ plcS (expS (bytes s) p) = accS wIface (nxtS (expS (bytes s) p))) := Lib.hid (by unfold plcI plcS accS; rw [hi]; exact ⟨rfl, rfl⟩)
    clear hi
    go_enter Tryz.func58, Tryz.ntmps58
    go_wp2_with fail
    refine (expect_any b G p s w H.out).mono ?_
    rintro e w1 ⟨rfl, g1, k1⟩
    go_wp2_with fail
    refine (HN.out _ _ g1).mono ?_
    rintro e w2 ⟨rfl, g2, k2⟩
    go_wp2_with fail
    refine (HA.out _ _ g2).mono ?_
    rintro e w3 ⟨rfl, g3, k3⟩
    rw [hi'.out]
    go_wp2_with fail
    go_ret2
    exact ⟨by rw [E.out.1]; rfl, by rw [E.out.2]; exact g3, (k1.trans k2).trans k3⟩

theorem far_on {w1 w2 : World} {g b : Nat} {x y : Value} (h : w1.grownBy w2 (some b)) (hz : g + 1 ≤ w1.heap.size) (hne : g ≠ b) (c0 : w1.cell? ⟨g, 0, none⟩ = some x) (c1 : w1.cell? ⟨g, 1, none⟩ = some y) (f : ∀ j, w1.frozen? ⟨g, j, none⟩ = false) :
    g + 1 ≤ w2.heap.size ∧ w2.cell? ⟨g, 0, none⟩ = some x ∧ w2.cell? ⟨g, 1, none⟩ = some y ∧ ∀ j, w2.frozen? ⟨g, j, none⟩ = false := by
  have hn : some g ≠ some b := fun e => hne (by injection e)
  exact ⟨Nat.le_trans hz h.size, (h.cell_far ⟨g, 0, none⟩ hz hn).trans c0, (h.cell_far ⟨g, 1, none⟩ hz hn).trans c1, fun j => (h.frozen_far ⟨g, j, none⟩ hz hn).trans (f j)⟩
theorem box_end {T : TypeId} {b G : Nat} {p : Ps} {w w1 : World} {o : Obj} (h1 : PSt T b G p w1) (h2 : (w.alloc o).grownBy w1 (some b)) (hG : G ≤ w.heap.size) (x y : Value) :
    PSt T b G p ((w1.setCell ⟨w.heap.size, 0, none⟩ x).setCell ⟨w.heap.size, 1, none⟩ y) ∧ w.grownBy ((w1.setCell ⟨w.heap.size, 0, none⟩ x).setCell ⟨w.heap.size, 1, none⟩ y) (some b) := by
  have hset := ((Below.refl w.heap.size w1).setCell (p := ⟨w.heap.size, 0, none⟩) (Nat.le_refl _) x).setCell (p := ⟨w.heap.size, 1, none⟩) (Nat.le_refl _) y
  exact ⟨h1.keep (hset.mono hG), grown_tail ((World.grownBy_alloc w o _).trans h2) hset⟩
/-- A range's value. -/
def RV (lo hi : Int) : Value := .agg #[.int .i64 lo, .int .i64 hi]

set_option maxHeartbeats 1000000 in
theorem pports_any (b G : Nat) (p : Ps) (s : ByteArray) (w : World) (h : PSt 86 b G p w) :
    Calls Tryz.prog 64 #[.pointer (some ⟨b, 0, none⟩), .string s] w (PPost 86 b G (RV (portV (bytes s) p).1 (portV (bytes s) p).2) (portS (bytes s) p) w) := by
  have hbG := h.1
  have hGw := h.2.1
  have H := Lib.hid h
  clear h
  have HA := Lib.hid (fun w h => accept_any b G p s w h)
  have HN := Lib.hid (fun p w h => pnumber_any b G p w h)
  cases hi : accB (bytes s) p with
  | true =>
    have E : Hid (portV (bytes s) p = (numVP (accS (bytes s) p), numVP (numS (accS (bytes s) p))) ∧ portS (bytes s) p = numS (numS (accS (bytes s) p))) := Lib.hid (by unfold portV portS; rw [hi]; exact ⟨rfl, rfl⟩)
    rw [hi] at HA
    clear hi
    go_enter Tryz.func64, Tryz.ntmps64
    go_wp2_with fail
    refine (HA.out _ (H.out.keep ((Below.refl _ w).alloc hGw _))).mono ?_
    rintro e w1 ⟨rfl, g1, k1⟩
    obtain ⟨hz1, c0, c1, f0⟩ := far_box k1 (by omega)
    have G1 := Lib.hid g1
    have K1 := Lib.hid k1
    clear g1 k1
    go_wp2_with fail
    refine (HN.out _ _ G1.out).mono ?_
    rintro e w2 ⟨rfl, g2, k2⟩
    obtain ⟨hz2, d0, d1, e0⟩ := far_on k2 hz1 (by omega) c0 c1 f0
    have G2 := Lib.hid g2
    have K2 := Lib.hid k2
    clear g2 k2 c0 c1 f0
    go_wp2_with fail
    refine (HN.out _ _ G2.out).mono ?_
    rintro e w3 ⟨rfl, g3, k3⟩
    obtain ⟨hz3, c0, c1, f0⟩ := far_on k3 hz2 (by omega) d0 d1 e0
    have G3 := Lib.hid g3
    have K3 := Lib.hid k3
    clear g3 k3 d0 d1 e0
    go_wp2_with fail
    refine bodyPost_ret (v := RV _ _) (by simp [results, Tryz.results64, go_sem, RV, *]; exact ⟨rfl, rfl⟩) rfl ⟨by rw [E.out.1], ?_⟩
    rw [E.out.2]
    exact box_end G3.out ((K1.out.trans K2.out).trans K3.out) hGw _ _
  | false =>
    have E : Hid (portV (bytes s) p = (0, 65535) ∧ portS (bytes s) p = accS (bytes s) p) := Lib.hid (by unfold portV portS accS; rw [hi]; exact ⟨rfl, rfl⟩)
    rw [hi] at HA
    clear hi
    go_enter Tryz.func64, Tryz.ntmps64
    go_wp2_with fail
    refine (HA.out _ (H.out.keep ((Below.refl _ w).alloc hGw _))).mono ?_
    rintro e w1 ⟨rfl, g1, k1⟩
    obtain ⟨hz1, c0, c1, f0⟩ := far_box k1 (by omega)
    have G1 := Lib.hid g1
    have K1 := Lib.hid k1
    clear g1 k1
    go_wp2_with fail
    refine bodyPost_ret (v := RV 0 65535) (by simp [results, Tryz.results64, go_sem, RV, *]) rfl ⟨by rw [E.out.1], ?_⟩
    rw [E.out.2]
    exact box_end G1.out K1.out hGw _ _

theorem kind_cases (s : List UInt8) : s = [100, 101, 108, 105, 118, 101, 114] ∨ s = [105, 115, 111, 108, 97, 116, 101] ∨ s = [116, 114, 97, 118, 101, 114, 115, 101] ∨ s = [108, 111, 111, 112, 108, 101, 115, 115] ∨ s = [104, 111, 108, 101, 108, 101, 115, 115] ∨ s = [101, 113, 117, 97, 116, 101] ∨ (s ≠ [100, 101, 108, 105, 118, 101, 114] ∧ s ≠ [105, 115, 111, 108, 97, 116, 101] ∧ s ≠ [116, 114, 97, 118, 101, 114, 115, 101] ∧ s ≠ [108, 111, 111, 112, 108, 101, 115, 115] ∧ s ≠ [104, 111, 108, 101, 108, 101, 115, 115] ∧ s ≠ [101, 113, 117, 97, 116, 101]) := by
  by_cases h0 : s = [100, 101, 108, 105, 118, 101, 114]
  · simp only [h0, true_or]
  by_cases h1 : s = [105, 115, 111, 108, 97, 116, 101]
  · simp only [h1, true_or, or_true]
  by_cases h2 : s = [116, 114, 97, 118, 101, 114, 115, 101]
  · simp only [h2, true_or, or_true]
  by_cases h3 : s = [108, 111, 111, 112, 108, 101, 115, 115]
  · simp only [h3, true_or, or_true]
  by_cases h4 : s = [104, 111, 108, 101, 108, 101, 115, 115]
  · simp only [h4, true_or, or_true]
  by_cases h5 : s = [101, 113, 117, 97, 116, 101]
  · simp only [h5, true_or, or_true]
  exact Or.inr (Or.inr (Or.inr (Or.inr (Or.inr (Or.inr ⟨h0, h1, h2, h3, h4, h5⟩)))))
theorem Tryz.runW0 (w : World) : Sem.run Tryz.prog (Instr.index 88 (.agg #[.string ⟨#[100, 101, 108, 105, 118, 101, 114]⟩, .string ⟨#[105, 115, 111, 108, 97, 116, 101]⟩, .string ⟨#[116, 114, 97, 118, 101, 114, 115, 101]⟩, .string ⟨#[108, 111, 111, 112, 108, 101, 115, 115]⟩, .string ⟨#[104, 111, 108, 101, 108, 101, 115, 115]⟩, .string ⟨#[101, 113, 117, 97, 116, 101]⟩]) (.int .i64 0)) w = .ok (.string ⟨#[100, 101, 108, 105, 118, 101, 114]⟩) w := by kernel_rfl
theorem Tryz.runW1 (w : World) : Sem.run Tryz.prog (Instr.index 88 (.agg #[.string ⟨#[100, 101, 108, 105, 118, 101, 114]⟩, .string ⟨#[105, 115, 111, 108, 97, 116, 101]⟩, .string ⟨#[116, 114, 97, 118, 101, 114, 115, 101]⟩, .string ⟨#[108, 111, 111, 112, 108, 101, 115, 115]⟩, .string ⟨#[104, 111, 108, 101, 108, 101, 115, 115]⟩, .string ⟨#[101, 113, 117, 97, 116, 101]⟩]) (.int .i64 1)) w = .ok (.string ⟨#[105, 115, 111, 108, 97, 116, 101]⟩) w := by kernel_rfl
theorem Tryz.runW2 (w : World) : Sem.run Tryz.prog (Instr.index 88 (.agg #[.string ⟨#[100, 101, 108, 105, 118, 101, 114]⟩, .string ⟨#[105, 115, 111, 108, 97, 116, 101]⟩, .string ⟨#[116, 114, 97, 118, 101, 114, 115, 101]⟩, .string ⟨#[108, 111, 111, 112, 108, 101, 115, 115]⟩, .string ⟨#[104, 111, 108, 101, 108, 101, 115, 115]⟩, .string ⟨#[101, 113, 117, 97, 116, 101]⟩]) (.int .i64 2)) w = .ok (.string ⟨#[116, 114, 97, 118, 101, 114, 115, 101]⟩) w := by kernel_rfl
theorem Tryz.runW3 (w : World) : Sem.run Tryz.prog (Instr.index 88 (.agg #[.string ⟨#[100, 101, 108, 105, 118, 101, 114]⟩, .string ⟨#[105, 115, 111, 108, 97, 116, 101]⟩, .string ⟨#[116, 114, 97, 118, 101, 114, 115, 101]⟩, .string ⟨#[108, 111, 111, 112, 108, 101, 115, 115]⟩, .string ⟨#[104, 111, 108, 101, 108, 101, 115, 115]⟩, .string ⟨#[101, 113, 117, 97, 116, 101]⟩]) (.int .i64 3)) w = .ok (.string ⟨#[108, 111, 111, 112, 108, 101, 115, 115]⟩) w := by kernel_rfl
theorem Tryz.runW4 (w : World) : Sem.run Tryz.prog (Instr.index 88 (.agg #[.string ⟨#[100, 101, 108, 105, 118, 101, 114]⟩, .string ⟨#[105, 115, 111, 108, 97, 116, 101]⟩, .string ⟨#[116, 114, 97, 118, 101, 114, 115, 101]⟩, .string ⟨#[108, 111, 111, 112, 108, 101, 115, 115]⟩, .string ⟨#[104, 111, 108, 101, 108, 101, 115, 115]⟩, .string ⟨#[101, 113, 117, 97, 116, 101]⟩]) (.int .i64 4)) w = .ok (.string ⟨#[104, 111, 108, 101, 108, 101, 115, 115]⟩) w := by kernel_rfl
theorem Tryz.runW5 (w : World) : Sem.run Tryz.prog (Instr.index 88 (.agg #[.string ⟨#[100, 101, 108, 105, 118, 101, 114]⟩, .string ⟨#[105, 115, 111, 108, 97, 116, 101]⟩, .string ⟨#[116, 114, 97, 118, 101, 114, 115, 101]⟩, .string ⟨#[108, 111, 111, 112, 108, 101, 115, 115]⟩, .string ⟨#[104, 111, 108, 101, 108, 101, 115, 115]⟩, .string ⟨#[101, 113, 117, 97, 116, 101]⟩]) (.int .i64 5)) w = .ok (.string ⟨#[101, 113, 117, 97, 116, 101]⟩) w := by kernel_rfl
set_option maxRecDepth 100000 in
set_option maxHeartbeats 2000000 in
theorem pkind_any (b G B : Nat) (p : Ps) (w : World) (h : PSt 86 b G p w) (he : EnvB B w) (hB : B ≤ b) :
    Calls Tryz.prog 57 #[.pointer (some ⟨b, 0, none⟩)] w (PPost 86 b G (.int .i64 (kindOf (nxtV p))) (stKind p).2 w) := by
  have hbw : B ≤ w.heap.size := by have := h.1; have := h.2.1; omega
  have HN := Lib.hid (next_any b G p w h)
  unfold strV at HN
  clear h
  go_enter Tryz.func57, Tryz.ntmps57
  go_wp2_with fail
  refine HN.out.mono ?_
  rintro e w1 ⟨rfl, g1, k1⟩
  obtain ⟨-, -, -, -, hw⟩ := he.keep (below_of_grown k1 hB hbw)
  have c0 : w1.cell? ⟨0, 0, none⟩ = some (.string ⟨#[100, 101, 108, 105, 118, 101, 114]⟩) := hw 0 _ rfl
  have c1 : w1.cell? ⟨0, 1, none⟩ = some (.string ⟨#[105, 115, 111, 108, 97, 116, 101]⟩) := hw 1 _ rfl
  have c2 : w1.cell? ⟨0, 2, none⟩ = some (.string ⟨#[116, 114, 97, 118, 101, 114, 115, 101]⟩) := hw 2 _ rfl
  have c3 : w1.cell? ⟨0, 3, none⟩ = some (.string ⟨#[108, 111, 111, 112, 108, 101, 115, 115]⟩) := hw 3 _ rfl
  have c4 : w1.cell? ⟨0, 4, none⟩ = some (.string ⟨#[104, 111, 108, 101, 108, 101, 115, 115]⟩) := hw 4 _ rfl
  have c5 : w1.cell? ⟨0, 5, none⟩ = some (.string ⟨#[101, 113, 117, 97, 116, 101]⟩) := hw 5 _ rfl
  clear hw
  have r0 := Tryz.runW0 w1
  have r1 := Tryz.runW1 w1
  have r2 := Tryz.runW2 w1
  have r3 := Tryz.runW3 w1
  have r4 := Tryz.runW4 w1
  have r5 := Tryz.runW5 w1
  have H1 := Lib.hid g1
  have K1 := Lib.hid k1
  have HF := Lib.hid g1.failed
  have q1 := g1.bad1
  have q2 := g1.frz 1
  clear g1 k1 he
  generalize hs : nxtV p = s
  replace hs := Lib.hid hs
  rcases kind_cases s with rfl | rfl | rfl | rfl | rfl | rfl | ⟨n0, n1, n2, n3, n4, n5⟩
  · have t := toList_str [100, 101, 108, 105, 118, 101, 114]
    go_wp2_with fail
    refine wp_loop_rounds 1 ?_
    iterate 1 (rw [rounds_succ]; go_wp2_with fail)
    go_ret
    exact ⟨by rw [hs.out]; rfl, by unfold stKind; rw [hs.out, if_neg (by decide)]; exact H1.out, K1.out⟩
  · have t := toList_str [105, 115, 111, 108, 97, 116, 101]
    go_wp2_with fail
    refine wp_loop_rounds 2 ?_
    iterate 2 (rw [rounds_succ]; go_wp2_with fail)
    go_ret
    exact ⟨by rw [hs.out]; rfl, by unfold stKind; rw [hs.out, if_neg (by decide)]; exact H1.out, K1.out⟩
  · have t := toList_str [116, 114, 97, 118, 101, 114, 115, 101]
    go_wp2_with fail
    refine wp_loop_rounds 3 ?_
    iterate 3 (rw [rounds_succ]; go_wp2_with fail)
    go_ret
    exact ⟨by rw [hs.out]; rfl, by unfold stKind; rw [hs.out, if_neg (by decide)]; exact H1.out, K1.out⟩
  · have t := toList_str [108, 111, 111, 112, 108, 101, 115, 115]
    go_wp2_with fail
    refine wp_loop_rounds 4 ?_
    iterate 4 (rw [rounds_succ]; go_wp2_with fail)
    go_ret
    exact ⟨by rw [hs.out]; rfl, by unfold stKind; rw [hs.out, if_neg (by decide)]; exact H1.out, K1.out⟩
  · have t := toList_str [104, 111, 108, 101, 108, 101, 115, 115]
    go_wp2_with fail
    refine wp_loop_rounds 5 ?_
    iterate 5 (rw [rounds_succ]; go_wp2_with fail)
    go_ret
    exact ⟨by rw [hs.out]; rfl, by unfold stKind; rw [hs.out, if_neg (by decide)]; exact H1.out, K1.out⟩
  · have t := toList_str [101, 113, 117, 97, 116, 101]
    go_wp2_with fail
    refine wp_loop_rounds 6 ?_
    iterate 6 (rw [rounds_succ]; go_wp2_with fail)
    go_ret
    exact ⟨by rw [hs.out]; rfl, by unfold stKind; rw [hs.out, if_neg (by decide)]; exact H1.out, K1.out⟩
  · have m0 : (s == [100, 101, 108, 105, 118, 101, 114]) = false := beq_eq_false_iff_ne.2 n0
    have m1 : (s == [105, 115, 111, 108, 97, 116, 101]) = false := beq_eq_false_iff_ne.2 n1
    have m2 : (s == [116, 114, 97, 118, 101, 114, 115, 101]) = false := beq_eq_false_iff_ne.2 n2
    have m3 : (s == [108, 111, 111, 112, 108, 101, 115, 115]) = false := beq_eq_false_iff_ne.2 n3
    have m4 : (s == [104, 111, 108, 101, 108, 101, 115, 115]) = false := beq_eq_false_iff_ne.2 n4
    have m5 : (s == [101, 113, 117, 97, 116, 101]) = false := beq_eq_false_iff_ne.2 n5
    have t := toList_str s
    have E : Hid (kindOf s = 0) := Lib.hid (by simp [kindOf, kindGo, kindWords, n0, n1, n2, n3, n4, n5])
    clear n0 n1 n2 n3 n4 n5
    go_wp2_with fail
    refine wp_loop_rounds 7 ?_
    iterate 7 (rw [rounds_succ]; go_wp2_with fail)
    go_ret
    exact ⟨by rw [hs.out, E.out]; rfl, by unfold stKind; rw [hs.out, if_pos E.out]; exact HF.out.1, K1.out.trans HF.out.2⟩
end Go.Proofs.YtnhemjdmleilcaaGreatDoor

/- A query in memory (twenty cells of a block), stores into it, and the walk of aimed and optional (both packages). No condition. -/
namespace Go.Proofs.YtnhemjdmleilcaaGreatDoor
open Go.RowKit

/-- The cells of a query. -/
def QC (q : Qr) : Array Value := #[.int .i64 q.kind, strV q.fr, strV q.fi, strV q.tr, strV q.ti, strV q.via, .int .u32 (q.la : Int), .int .i64 q.ll, .int .u32 (q.ra : Int), .int .i64 q.rl,
  .int .u32 (q.sa : Int), .int .i64 q.sl, .int .u32 (q.da : Int), .int .i64 q.dl, .int .i64 q.proto, .int .i64 q.slo, .int .i64 q.shi, .int .i64 q.dlo, .int .i64 q.dhi, .int .i64 q.fails]
theorem QV_eq (q : Qr) : QV q = .agg (QC q) := rfl
/-- Block g holds the query q. -/
def HasQ (g : Nat) (q : Qr) (w : World) : Prop := w.heap[g]? = some (.cells (QC q) 33 (0, 0))
theorem HasQ.cell {g : Nat} {q : Qr} {w : World} (h : HasQ g q w) (j : Nat) : w.cell? ⟨g, j, none⟩ = (QC q)[j]? := Lib.cell_of_heap h j
theorem HasQ.frz {g : Nat} {q : Qr} {w : World} (h : HasQ g q w) (j : Nat) : w.frozen? ⟨g, j, none⟩ = false := Lib.frozen_of_heap h j
theorem HasQ.grown {g : Nat} {q : Qr} {w w' : World} (h : HasQ g q w) {row : Option Nat} (hg : w.grownBy w' row) (hr : some g ≠ row) : HasQ g q w' := (hg.block g (blk_lt h) hr).trans h
theorem HasQ.below {g B : Nat} {q : Qr} {w w' : World} (h : HasQ g q w) (hb : Below B w w') (hg : g < B) : HasQ g q w' := (hb.block g hg).trans h
theorem HasQ.other {g k j : Nat} {q : Qr} {w : World} (h : HasQ g q w) (v : Value) (hk : g ≠ k) : HasQ g q (w.setCell ⟨k, j, none⟩ v) := (Below.heap_setCell _ _ _ _ hk).trans h
theorem HasQ.put {g j : Nat} {q q' : Qr} {w : World} (h : HasQ g q w) (v : Value) (e : (QC q).setIfInBounds j v = QC q') : HasQ g q' (w.setCell ⟨g, j, none⟩ v) := by
  unfold HasQ
  rw [Lib.heap_setCell_same (i := j) h v]
  rw [← e]

theorem aimed_any (k : Int) (w : World) : Calls Tryz.prog 26 #[.int .i64 k] w fun e w' => e = .returned (.bool (aimedB k)) ∧ w = w' := by
  by_cases h1 : k = 1
  · subst h1
    go_enter Tryz.func26, Tryz.ntmps26
    go_wp2_with fail
    go_ret
    exact ⟨rfl, rfl⟩
  by_cases h2 : k = 2
  · subst h2
    go_enter Tryz.func26, Tryz.ntmps26
    go_wp2_with fail
    go_ret
    exact ⟨rfl, rfl⟩
  have d1 : (k == 1) = false := by simpa using h1
  have d2 : (k == 2) = false := by simpa using h2
  have E : Hid ((k == 3) = aimedB k) := Lib.hid (by unfold aimedB; rw [d1, d2]; rfl)
  go_enter Tryz.func26, Tryz.ntmps26
  go_wp2_with fail
  go_ret
  exact ⟨ret_bool E.out, rfl⟩
end Go.Proofs.YtnhemjdmleilcaaGreatDoor

/- The state in the middle of the walk of the parser's method query: the query's own block, the result's, the parser. -/
namespace Go.Proofs.YtnhemjdmleilcaaGreatDoor
open Go.RowKit

/-- w0: the world at the entry; the result lies in block w0.heap.size, the query behind it. -/
structure Mid (T : TypeId) (b G B : Nat) (w0 : World) (x : St) (w : World) : Prop where
  q : HasQ (w0.heap.size + 1) x.1 w
  r : HasQ w0.heap.size Qr.zero w
  p : PSt T b G x.2 w
  g : w0.grownBy w (some b)
  e : EnvB B w
  s : x.2.short
  o : B ≤ b ∧ b < G ∧ G ≤ w0.heap.size

theorem Mid.call {T : TypeId} {b G B : Nat} {w0 w w' : World} {x : St} (m : Mid T b G B w0 x w) {p' : Ps} (hp : PSt T b G p' w') (hg : w.grownBy w' (some b)) (hs : p'.short) : Mid T b G B w0 (x.1, p') w' := by
  obtain ⟨h1, h2, h3⟩ := m.o
  have hw : w0.heap.size ≤ w.heap.size := m.g.size
  exact ⟨m.q.grown hg (fun e => by injection e; omega), m.r.grown hg (fun e => by injection e; omega), hp, m.g.trans hg, m.e.keep (below_of_grown hg h1 (by omega)), hs, m.o⟩
theorem Mid.put {T : TypeId} {b G B : Nat} {w0 w : World} {x : St} (m : Mid T b G B w0 x w) {q' : Qr} {j : Nat} (v : Value) (e : (QC x.1).setIfInBounds j v = QC q') : Mid T b G B w0 (q', x.2) (w.setCell ⟨w0.heap.size + 1, j, none⟩ v) := by
  obtain ⟨h1, h2, h3⟩ := m.o
  have hb : Below w0.heap.size w (w.setCell ⟨w0.heap.size + 1, j, none⟩ v) := (Below.refl _ _).setCell (p := ⟨w0.heap.size + 1, j, none⟩) (by show _ ≤ w0.heap.size + 1; omega) v
  exact ⟨m.q.put v e, m.r.other v (by omega), m.p.keep (hb.mono h3), grown_tail m.g hb, m.e.keep (hb.mono (by omega)), m.s, m.o⟩

theorem short_fail {p : Ps} (h : p.short) : p.fail.short := h
theorem short_acc {p : Ps} (s : List UInt8) (h : p.short) : (accS s p).short := by
  unfold accS; split
  · exact short_tail h
  · exact h
theorem short_exp {p : Ps} (s : List UInt8) (h : p.short) : (expS s p).short := by
  unfold expS; split
  · exact short_tail h
  · exact h
theorem short_pfx {p : Ps} (h : p.short) : (pfxS p).short := by
  unfold pfxS; split <;> exact short_nxt h
theorem short_num {p : Ps} (h : p.short) : (numS p).short := by
  unfold numS; split <;> exact short_nxt h
theorem short_plc {p : Ps} (h : p.short) : (plcS p).short := by
  unfold plcS; split
  · exact short_nxt (short_acc _ (short_nxt h))
  · exact short_nxt h
theorem short_port {p : Ps} (s : List UInt8) (h : p.short) : (portS s p).short := by
  unfold portS; split
  · exact short_num (short_num (short_acc _ h))
  · exact h
theorem short_kind {p : Ps} (h : p.short) : (stKind p).2.short := by
  unfold stKind; dsimp only; split <;> exact short_nxt h
theorem Mid.start {T : TypeId} {b G B : Nat} {p : Ps} {w : World} (h : PSt T b G p w) (he : EnvB B w) (hB : B ≤ b) (hs : p.short) :
    Mid T b G B w (Qr.zero, p) ((w.alloc (.cells (QC Qr.zero) 33)).alloc (.cells (QC Qr.zero) 33)) := by
  have h1 := h.1
  have h2 := h.2.1
  have hb : Below w.heap.size w ((w.alloc (.cells (QC Qr.zero) 33)).alloc (.cells (QC Qr.zero) 33)) := ((Below.refl _ w).alloc (Nat.le_refl _) _).alloc (by simp) _
  refine ⟨?_, ?_, h.keep (hb.mono h2), grown_below (Nat.le_refl _) hb _, he.keep (hb.mono (by omega)), hs, hB, h1, h2⟩
  · have := heap_alloc_new (w.alloc (.cells (QC Qr.zero) 33)) (.cells (QC Qr.zero) 33)
    simpa [HasQ] using this
  · unfold HasQ
    rw [Below.heap_alloc _ _ _ (by simp)]
    exact heap_alloc_new w _
end Go.Proofs.YtnhemjdmleilcaaGreatDoor

/- A query as a whole, out of and into a block: the laws of the operations load and store at its type; the result that lies in a block. No condition. -/
namespace Go.Proofs.YtnhemjdmleilcaaGreatDoor
open Go.RowKit

theorem Tryz.rowQ : (Tryz.prog.underlying 33).map TypeDesc.isRow = some true := by kernel_rfl
theorem Tryz.sizeQ : (Tryz.prog.info? 33).map (·.size) = some 20 := by kernel_rfl
theorem row_of {P : Program} {t : TypeId} (h : (P.underlying t).map TypeDesc.isRow = some true) : ∃ d, P.underlying t = some d ∧ d.isRow = true := by
  cases hu : P.underlying t with
  | none => rw [hu] at h; cases h
  | some d => exact ⟨d, rfl, by rw [hu] at h; simpa using h⟩
theorem QC_size (q : Qr) : (QC q).size = 20 := rfl
theorem QC_one (q : Qr) : (QC q).all (·.oneCell') = true := by
  rw [Array.all_eq_true_iff_forall_mem]
  intro v hv
  simp only [QC, List.mem_toArray, List.mem_cons, List.not_mem_nil, or_false] at hv
  rcases hv with rfl | rfl | rfl | rfl | rfl | rfl | rfl | rfl | rfl | rfl | rfl | rfl | rfl | rfl | rfl | rfl | rfl | rfl | rfl | rfl <;> rfl
theorem HasQ.range {g : Nat} {q : Qr} {w : World} (h : HasQ g q w) : w.rangeAt g 0 (QC q).toList := by
  intro j v hv
  rw [Nat.zero_add, h.cell j, ← hv]
  simp
theorem HasQ.there {g : Nat} {q : Qr} {w : World} (h : HasQ g q w) : w.there g 0 20 := by
  intro j hj
  rw [Nat.zero_add]
  refine ⟨?_, h.frz j⟩
  rw [h.cell j, Array.getElem?_eq_getElem (by rw [QC_size]; exact hj)]
  rfl
theorem HasQ.load {g : Nat} {q : Qr} {w : World} (h : HasQ g q w) : (loadVar 33 ⟨g, 0, none⟩).run Tryz.prog w = .ok (QV q) w := by
  obtain ⟨d, hu, hd⟩ := row_of Tryz.rowQ
  have := run_loadVar_mid (P := Tryz.prog) w g 0 33 (QC q).toList d h.range hu hd Tryz.sizeQ
  simpa [QV_eq] using this
theorem wpList_loadQ {ops : Array Oper} {rest : List Oper} {o : Oper} {a : Act} {w : World} {Q : Exit → Act → World → Prop} (hgd : o.guard = none) (x : Operand) (ho : o.op = .load 33 x)
    {g : Nat} {q : Qr} (hx : a.eval x = .pointer (some ⟨g, 0, none⟩)) (hq : HasQ g q w) (h : wpList Tryz.prog ops Q rest (a.put o.dst (QV q)) w) : wpList Tryz.prog ops Q (o :: rest) a w := by
  obtain ⟨d, hu, hd⟩ := row_of Tryz.rowQ
  refine wpList_load_mid hgd 33 x ho g 0 hx (QC q).toList d hq.range hu hd Tryz.sizeQ ?_
  simpa [QV_eq] using h

/-- Values into the cells from offset o on. -/
def setAll (cs : Array Value) : Nat → List Value → Array Value
  | _, [] => cs
  | o, v :: r => setAll (cs.setIfInBounds o v) (o + 1) r
theorem heap_setCells_same {g : Nat} {T : TypeId} {fz : Nat × Nat} : ∀ (vs : List Value) (o : Nat) (cs : Array Value) (w : World), w.heap[g]? = some (.cells cs T fz) → (w.setCells g o vs).heap[g]? = some (.cells (setAll cs o vs) T fz)
  | [], _, _, _, h => h
  | v :: r, o, cs, w, h => by
    unfold World.setCells setAll
    exact heap_setCells_same r (o + 1) _ _ (Lib.heap_setCell_same (i := o) h v)
theorem grown_setCells (g : Nat) : ∀ (vs : List Value) (o : Nat) (w : World), w.grownBy (w.setCells g o vs) (some g)
  | [], _, _ => World.grownBy.refl _ _
  | v :: r, o, w => by
    unfold World.setCells
    exact (grown_set w g o v).trans (grown_setCells g r (o + 1) _)
theorem HasQ.stored {g : Nat} {q : Qr} {w : World} (h : HasQ g q w) (q' : Qr) : HasQ g q' (w.setCells g 0 (QC q').toList) := by
  unfold HasQ at h ⊢
  rw [heap_setCells_same _ 0 _ _ h]
  have e : setAll (QC q) 0 (QC q').toList = QC q' := by simp only [QC, setAll, List.setIfInBounds_toArray, List.set, Nat.zero_add, Nat.reduceAdd]
  rw [e]
theorem wpList_storeQ {ops : Array Oper} {rest : List Oper} {o : Oper} {a : Act} {w : World} {Q : Exit → Act → World → Prop} (hgd : o.guard = none) (x y : Operand) (ho : o.op = .store 33 x y)
    {g : Nat} {q q' : Qr} (hx : a.eval x = .pointer (some ⟨g, 0, none⟩)) (hy : a.eval y = QV q') (hq : HasQ g q w)
    (h : ∀ w', HasQ g q' w' → w.grownBy w' (some g) → wpList Tryz.prog ops Q rest (a.put o.dst undef) w') : wpList Tryz.prog ops Q (o :: rest) a w :=
  wpList_store_mid hgd 33 x y ho g 0 (QC q') hx (hy.trans (QV_eq _)) hq.there Tryz.sizeQ (QC_one q') (h _ (hq.stored q') (grown_setCells _ _ _ _))
/-- A result that lies in a block. -/
theorem results_cell {P : Program} {fn : Func} {tmps : Array Value} {w : World} {k : Nat} {T : TypeId} {g : Addr} {v : Value} (hf : fn.results = #[.cell k T]) (hk : tmps.getD k undef = .pointer (some g))
    (hl : (loadVar T g).run P w = .ok v w) : (results fn tmps).run P w = .ok v w := by
  rw [Array.getD_eq_getD_getElem?] at hk
  unfold results
  simp [hf, hk, asAddr, hl]
/-- Two results, the first in a block. -/
theorem results_cell2 {P : Program} {fn : Func} {tmps : Array Value} {w : World} {k j : Nat} {T : TypeId} {g : Addr} {v u : Value} (hf : fn.results = #[.cell k T, .tmp j]) (hk : tmps.getD k undef = .pointer (some g))
    (hj : tmps.getD j undef = u) (hl : (loadVar T g).run P w = .ok v w) : (results fn tmps).run P w = .ok (.tuple #[v, u]) w := by
  rw [Array.getD_eq_getD_getElem?] at hk hj
  unfold results
  simp [hf, hk, hj, asAddr, hl]
end Go.Proofs.YtnhemjdmleilcaaGreatDoor
