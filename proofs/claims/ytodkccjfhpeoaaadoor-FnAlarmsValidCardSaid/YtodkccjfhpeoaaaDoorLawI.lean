/- Contracts of the laws' own small functions on ints: sameInts, sumOf. No statement is proved here. -/
import Derived.Test.YtodkccjfhpeoaaaDoorDrL
import Derived.Test.YtodkccjfhpeoaaaDoorLive
namespace Go.Proofs.YtodkccjfhpeoaaaDoor
open Go.RowKit
end Go.Proofs.YtodkccjfhpeoaaaDoor
