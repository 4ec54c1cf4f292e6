/- The walk of the comparison of two lists of strings. No condition beyond that both can be read. -/
import Derived.Test.YtnhemjdmleilcaaDoorScanD
namespace Go.Proofs.YtnhemjdmleilcaaDoor
open Go.RowKit

theorem toList_str (l : List UInt8) : (str l).toList = l := by rw [Go.ByteArray.toList_eq]; simp [str]
theorem list_step {α : Type} (l : List α) (k : Nat) (h : k < l.length) : l.drop k = l[k] :: l.drop (k + 1) := List.drop_eq_getElem_cons h
theorem slc_at {w : World} {B : Nat} {A : Option Addr} {n c : Nat} {xs : List (List UInt8)} (h : Slc w B 1 (.slice A n c) n (xs.map strV)) (hn : n = xs.length) {k : Nat} (hk : k < xs.length) :
    ∃ g o, A = some ⟨g, o, none⟩ ∧ g < B ∧ w.cell? ⟨g, o + k, none⟩ = some (strV xs[k]) := by
  obtain ⟨A', c', e, _, _, _, h⟩ := h
  injection e with e1 e2 e3
  subst e1
  obtain ⟨g, o, rfl, hg, hc⟩ := h (by omega)
  exact ⟨g, o, rfl, hg, hc k _ (by simp [hk])⟩

end Go.Proofs.YtnhemjdmleilcaaDoor
