/- SamplesValid, SeekKey and the helpers over lists of entries. -/
import Derived.Test.YtpjjadmjdafkeaaDoorS1
import Derived.Test.YtpjjadmjdafkeaaDoorP2
import Derived.Test.YtpjjadmjdafkeaaDoorA2
namespace Go.Proofs.YtpjjadmjdafkeaaDoor
open Go.RowKit
set_option maxHeartbeats 400000

end Go.Proofs.YtpjjadmjdafkeaaDoor
