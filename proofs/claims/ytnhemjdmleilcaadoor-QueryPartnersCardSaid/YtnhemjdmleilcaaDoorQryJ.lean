/- The reference's Parse: its walk's parts (All, words), its state, and that it reads what Parse reads. -/
import Derived.Test.YtnhemjdmleilcaaDoorQryI
import Derived.Test.YtnhemjdmleilcaaDoorQryU
namespace Go.Proofs.YtnhemjdmleilcaaDoor
open Go.RowKit

theorem all_any (w : World) : Calls Tryd.prog 45 #[] w fun e w' => e = .returned (MV 0 0 0 0 (-1) 0 65535 0 65535) ∧ Below w.heap.size w w' := by
  go_enter Tryd.func45, Tryd.ntmps45
  go_wp2_with fail
  refine bodyPost_ret (v := MV 0 0 0 0 (-1) 0 65535 0 65535) (by simp [results, Tryd.results45, go_sem, MV, MC]) rfl ⟨rfl, ?_⟩
  exact (Below.refl _ _).alloc (Nat.le_refl _) _
def WC : Array Value := #[.string ⟨#[]⟩, .string ⟨#[100, 101, 108, 105, 118, 101, 114]⟩, .string ⟨#[105, 115, 111, 108, 97, 116, 101]⟩, .string ⟨#[116, 114, 97, 118, 101, 114, 115, 101]⟩, .string ⟨#[108, 111, 111, 112, 108, 101, 115, 115]⟩, .string ⟨#[104, 111, 108, 101, 108, 101, 115, 115]⟩, .string ⟨#[101, 113, 117, 97, 116, 101]⟩]
theorem words_any (w : World) : Calls Tryd.prog 46 #[] w fun e w' => e = .returned (.slice (some ⟨w.heap.size, 0, none⟩) 7 7) ∧ w.alloc (.cells WC 9) = w' := by
  go_enter Tryd.func46, Tryd.ntmps46
  go_wp2_with fail
  go_ret
  exact ⟨rfl, rfl⟩

/-- The reference's query ahead of its kind: every packet. -/
def allQ (q : Qr) : Qr := { q with proto := -1, slo := 0, shi := 65535, dlo := 0, dhi := 65535 }
def portsQ (q : Qr) : Qr := { q with slo := 0, shi := 65535, dlo := 0, dhi := 65535 }
def dportQ (q : Qr) : Qr := { q with dlo := 0, dhi := 65535 }
/-- The kind of the first field, and the parser behind it. -/
def rKind (p : Ps) : St := if kindOf (nxtV p) = 0 then (allQ Qr.zero, p) else (allQ { Qr.zero with kind := kindOf (nxtV p) }, nxtS p)
def rProto (x : St) : St := if accB wProto x.2 then let p := accS wProto x.2; ({ x.1 with proto := numVP p }, numS p) else x
def rSport (x : St) : St := if accB wSport x.2 then let p := accS wSport x.2; ({ x.1 with slo := numVP p, shi := numVP (numS p) }, numS (numS p)) else x
def rDport (x : St) : St := if accB wDport x.2 then let p := accS wDport x.2; ({ x.1 with dlo := numVP p, dhi := numVP (numS p) }, numS (numS p)) else x
def readOf (p : Ps) : St := stFails (rDport (rSport (rProto (stDst (stSrc (stEq (stVia (stTo (stFrom (rKind p))))))))))

theorem acc_idle {word : List UInt8} {p : Ps} (h : accB word p = false) : accS word p = p := by unfold accS; rw [h]; rfl
theorem readOf_eq {p : Ps} (h : kindOf (nxtV p) ≠ 0) : readOf p = queryOf p := by
  have h0 : rKind p = (allQ (stKind p).1, (stKind p).2) := by
    unfold rKind stKind; rw [if_neg h, if_neg h]
  have hF : ∀ x : St, stFrom (allQ x.1, x.2) = (allQ (stFrom x).1, (stFrom x).2) := fun x => rfl
  have hT : ∀ x : St, stTo (allQ x.1, x.2) = (allQ (stTo x).1, (stTo x).2) := by
    intro x; unfold stTo; show (if aimedB x.1.kind then _ else _) = _; split <;> rfl
  have hV : ∀ x : St, stVia (allQ x.1, x.2) = (allQ (stVia x).1, (stVia x).2) := by
    intro x; unfold stVia; show (if x.1.kind = 3 then _ else _) = _; split <;> rfl
  have hE : ∀ x : St, stEq (allQ x.1, x.2) = (allQ (stEq x).1, (stEq x).2) := by
    intro x; unfold stEq; show (if x.1.kind = 6 then _ else _) = _; split <;> rfl
  have hS : ∀ x : St, stSrc (allQ x.1, x.2) = (allQ (stSrc x).1, (stSrc x).2) := by
    intro x; unfold stSrc; show (if accB wSrc x.2 then _ else _) = _; split <;> rfl
  have hD : ∀ x : St, stDst (allQ x.1, x.2) = (allQ (stDst x).1, (stDst x).2) := by
    intro x; unfold stDst; show (if accB wDst x.2 then _ else _) = _; split <;> rfl
  have hP : ∀ x : St, rProto (allQ x.1, x.2) = (portsQ (stProto x).1, (stProto x).2) := by
    intro x; unfold rProto stProto; show (if accB wProto x.2 then _ else _) = _; split <;> rfl
  have h1 : ∀ x : St, rSport (portsQ x.1, x.2) = (dportQ (stSport x).1, (stSport x).2) := by
    intro x; unfold rSport stSport portV portS; show (if accB wSport x.2 then _ else _) = _; split <;> rfl
  have h2 : ∀ x : St, rDport (dportQ x.1, x.2) = stDport x := by
    intro x; unfold rDport stDport portV portS; show (if accB wDport x.2 then _ else _) = _; split <;> rfl
  unfold readOf queryOf
  rw [h0, hF, hT, hV, hE, hS, hD, hP, h1, h2]
/-- No kind: Parse answers ErrSyntax. -/
theorem parseE_kind {l : List UInt8} (h : linesErr l = 0) (h2 : (10 : UInt8) ∉ l) (hk : kindOf (nxtV ⟨fieldsOf 35 l, false⟩) = 0) : parseE l = 2 := by
  rw [parseE_rest h h2 rfl, queryOf_bad hk]; rfl
theorem rKind_none {p : Ps} (h : kindOf (nxtV p) = 0) : rKind p = (allQ Qr.zero, p) := by unfold rKind; rw [if_pos h]
theorem rKind_some {p : Ps} (h : kindOf (nxtV p) ≠ 0) : rKind p = (allQ { Qr.zero with kind := kindOf (nxtV p) }, nxtS p) := by unfold rKind; rw [if_neg h]
end Go.Proofs.YtnhemjdmleilcaaDoor
