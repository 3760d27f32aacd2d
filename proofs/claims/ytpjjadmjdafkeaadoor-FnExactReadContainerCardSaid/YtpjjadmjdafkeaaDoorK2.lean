/- Packets: contracts of their validity and bytes. -/
import Derived.Test.YtpjjadmjdafkeaaDoorK1
import Derived.Test.YtpjjadmjdafkeaaDoorA2
import Derived.Test.YtpjjadmjdafkeaaDoorAppm
namespace Go.Proofs.YtpjjadmjdafkeaaDoor
open Go.RowKit
set_option maxHeartbeats 400000

end Go.Proofs.YtpjjadmjdafkeaaDoor
