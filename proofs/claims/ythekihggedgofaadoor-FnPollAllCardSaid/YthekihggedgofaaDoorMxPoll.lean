/- Contracts of the laws' small functions on the struct Poll: sizes, copies, comparing, marking. No statement is proved here. -/
import Derived.Test.YthekihggedgofaaDoorAll
import Derived.Test.YthekihggedgofaaDoorDrX
import Derived.Test.YthekihggedgofaaDoorFrS
namespace Go.Proofs.YthekihggedgofaaDoor
open Go.RowKit




end Go.Proofs.YthekihggedgofaaDoor
