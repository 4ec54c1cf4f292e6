/- The walk of the small function blank of scan. No condition. -/
import Derived.Test.YtpclacofcfbpjaaDoorScanS
namespace Go.Proofs.YtpclacofcfbpjaaDoor
open Go.RowKit

theorem blank_any (c : Int) (w : World) : Calls Tryd.prog 32 #[.int .u8 c] w fun e w' => e = .returned (.bool (blankB c)) ∧ w = w' := by
  go_enter Tryd.func32, Tryd.ntmps32
  go_wp2
  all_goals (go_ret; refine ⟨?_, rfl⟩; simp_all [blankB])
end Go.Proofs.YtpclacofcfbpjaaDoor
