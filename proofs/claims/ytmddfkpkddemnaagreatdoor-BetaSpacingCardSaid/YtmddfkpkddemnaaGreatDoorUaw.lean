/- Arguments that are slices of strings or of bytes: what the walks are told of them. No condition. -/
import Derived.Test.YtmddfkpkddemnaaGreatDoorUa
import Derived.ProofKit
import Derived.SliceStrings
import Derived.OpenShut
namespace Go.Proofs.YtmddfkpkddemnaaGreatDoor
open Go.RowKit
theorem slc_arg {w : World} {x : Addr} {len cap : Nat} {xs : List Value} (hl : len ≤ cap) (hm : cap ≤ maxLen) (hx : xs.length = len) (hc : ∀ i, (h : i < xs.length) → w.cell? (x.add i) = some xs[i]) :
    Slc w w.heap.size 1 (.slice (some x) len cap) len xs := by
  refine ⟨some x, cap, rfl, by omega, by omega, fun h => (by cases h), fun hn => ?_⟩
  obtain ⟨g, o, s⟩ := x
  have h0 := hc 0 (by omega)
  have hs : s = none := by simpa [Addr.add] using World.cell?_spot h0
  subst hs
  refine ⟨g, o, rfl, ?_, fun j u hu => ?_⟩
  · exact World.block_lt_of_cell? w _ (by simpa [Addr.add] using h0)
  · obtain ⟨hj, rfl⟩ := List.getElem?_eq_some_iff.1 hu
    have := hc j hj
    rwa [addr_add] at this
def BytesArg (w : World) (A : Option Addr) (len cap : Nat) (zs : List Int) : Prop :=
  Slc w w.heap.size 1 (.slice A len cap) len (zs.map (Value.int .u8)) ∧ len = zs.length ∧ ∀ z ∈ zs, 0 ≤ z ∧ z ≤ 255
theorem bytesArg_nil {w : World} : BytesArg w none 0 0 [] := ⟨Slc.nil, rfl, fun _ h => (by cases h)⟩
theorem bytesArg_mk {w : World} {x : Addr} {len cap : Nat} {ss : List Int} (hl : len ≤ cap) (hm : cap ≤ maxLen) (hz : ss.length = cap)
    (hc : ∀ i, i < ss.length → w.cell? (x.add i) = some (.int .u8 (ss.getD i 0))) (hw : ∀ s ∈ ss, (Lit.int .u8 s).wf = true) : BytesArg w (some x) len cap (ss.take len) := by
  have hlen : (ss.take len).length = len := by rw [List.length_take]; omega
  refine ⟨slc_arg hl hm (by simp; omega) ?_, by simp; omega, ?_⟩
  · intro i hi
    have hi' : i < len := by simp at hi; omega
    rw [hc i (by omega)]
    simp [List.getD_eq_getElem?_getD, List.getElem?_eq_getElem (show i < ss.length by omega)]
  · intro z hz'
    have := hw z (List.mem_of_mem_take hz')
    have := bounds_u8 this
    omega
end Go.Proofs.YtmddfkpkddemnaaGreatDoor
