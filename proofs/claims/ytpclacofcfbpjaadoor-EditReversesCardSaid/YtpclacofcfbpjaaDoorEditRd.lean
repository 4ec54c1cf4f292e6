/- EditReverses: the walk and the arguments. No condition. -/
import Derived.Test.YtpclacofcfbpjaaDoorEditRc
import Derived.Test.YtpclacofcfbpjaaDoorEditArgs
