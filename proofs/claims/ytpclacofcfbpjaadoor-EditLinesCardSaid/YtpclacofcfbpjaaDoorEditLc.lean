/- EditLines: the walk and the arguments. No condition. -/
import Derived.Test.YtpclacofcfbpjaaDoorEditLb
import Derived.Test.YtpclacofcfbpjaaDoorEditArgs
