/- The walk of AlphaComments with CheckRouter's own contract. Condition: Go's own tables lie in memory (EnvA). -/
import Derived.Test.YtoceoaiokkbjeaaGreatDoorVak
import Derived.Test.YtoceoaiokkbjeaaGreatDoorVao
namespace Go.Proofs.YtoceoaiokkbjeaaGreatDoor
open Lib (hid)
open Go.RowKit
theorem zIq (s : ByteArray) (A : Option Addr) (len cap : Nat) (gs : List Int) (w : World) (he : EnvA w.heap.size w) (hG : zIl w A len cap gs) (_ : len ≤ cap) : Calls Tryz.prog 5 #[.string s, .slice A len cap] w fun e w' => e = .returned (.bool true) ∧ Below w.heap.size w w' :=
 comments_gen zEb check_any (fun _ h => (zGh h).trans saneA_ok) (fun _ _ h => zGh h) s A len cap gs w he hG
end Go.Proofs.YtoceoaiokkbjeaaGreatDoor
