/- An argument that is a slice of queries: what the walks are told of it. No condition. -/
import Derived.Test.YtnhemjdmleilcaaDoorQryArgs
import Derived.Test.YtnhemjdmleilcaaDoorSlices
import Derived.Test.YtnhemjdmleilcaaDoorQryMb
namespace Go.Proofs.YtnhemjdmleilcaaDoor
open Go.RowKit Go.ChangeShapes Go.WideShapes Go.Deep
section
variable {H : Type} {enc : TypeId × Value → H} {w : World} {base : Nat} {spare : Nat → Bool} {held : Bool}
theorem open_queries {fuel : Nat} {a : Option Addr} {len cap : Nat} {x : DataW H × List MemPlace} (h : DataW.trod enc Tryd.prog w base spare held fuel 46 [.slice a len cap] = some x) :
    ∃ qs, QsArg w a len cap qs ∧ len ≤ cap := by
  obtain ⟨es, h1, h2, h3, h4⟩ := open_rows Qr.zero (fun q => (QC q).toList) (fun q => q.fit) (n := 20) (by decide) (fun q => rfl) Tryd.underlying46 (by kernel_rfl) (fun fuel cs x hl h => query_cells hl h) h
  exact ⟨es, ⟨h3, h1.symm, h4⟩, h2⟩
end
end Go.Proofs.YtnhemjdmleilcaaDoor
