/- beta's Parse with the program's own CheckRouter. Condition: Go's own tables lie in memory (EnvA). -/
import Derived.Test.YtmddfkpkddemnaaGreatDoorUaf
import Derived.Test.YtmddfkpkddemnaaGreatDoorUan
import Derived.Test.YtmddfkpkddemnaaGreatDoorUar
namespace Go.Proofs.YtmddfkpkddemnaaGreatDoor
open Go.RowKit
theorem bcheck_any : CRt routerE := checkRouter_any
theorem bParse_any : PRt routerE := bParse_gen routerE bcheck_any routerE_plain form_any
theorem saneR_ok : routerE saneR = 0 := by kernel_rfl
end Go.Proofs.YtmddfkpkddemnaaGreatDoor
