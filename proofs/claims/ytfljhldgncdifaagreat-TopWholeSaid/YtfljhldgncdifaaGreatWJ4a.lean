import Derived.Test.YtfljhldgncdifaaGreatRows
import Derived.Test.YtfljhldgncdifaaGreatProg
import Derived.WalkKit
import Derived.ProofKit
import Derived.OpenShut
import Derived.Below
import Derived.JoinedOf
namespace Go.Proofs.YtfljhldgncdifaaGreat
open Go Go.ChangeShapes Go.WideShapes Go.ChangeAt Go.RowKit
set_option maxRecDepth 100000
theorem ja:(Rows.topWholeRow.inPlace==Tryz.pinned.checked.prog.inPlace 4)=true:=by kernel_rfl
end Go.Proofs.YtfljhldgncdifaaGreat
