/- Contracts of the laws' own small functions on ints: sameInts, sumOf. No statement is proved here. -/
import Derived.Test.YtlpgdcmohkacoaaDoorDrL
import Derived.Test.YtlpgdcmohkacoaaDoorLive
namespace Go.Proofs.YtlpgdcmohkacoaaDoor
open Go.RowKit
end Go.Proofs.YtlpgdcmohkacoaaDoor
