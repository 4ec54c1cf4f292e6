/- The walk of the statement BetaSpacing. Condition: Go's own tables lie in memory (EnvA). -/
import Derived.Test.YtmddfkpkddemnaaGreatDoorUas
import Derived.Test.YtmddfkpkddemnaaGreatDoorUax
namespace Go.Proofs.YtmddfkpkddemnaaGreatDoor
open Go.RowKit
theorem betaSpacing_walk (s : ByteArray) (A : Option Addr) (len cap : Nat) (gs : List Int) (w : World) (he : EnvA w.heap.size w) (hG : BytesArg w A len cap gs) (_ : len ≤ cap) : Calls Tryz.prog 5 #[.string s, .slice A len cap] w fun e w' => e = .returned (.bool true) ∧ Below w.heap.size w w' := betaSpacing_gen routerE bParse_any saneR_ok s A len cap gs w he hG
end Go.Proofs.YtmddfkpkddemnaaGreatDoor
