import Derived.Test.YtfljhldgncdifaaGreatRows
import Derived.Test.YtfljhldgncdifaaGreatProg
import Derived.WalkKit
import Derived.ProofKit
import Derived.OpenShut
import Derived.Below
import Derived.JoinedOf
namespace Go.Proofs.YtfljhldgncdifaaGreat
open Go Go.ChangeShapes Go.WideShapes Go.ChangeAt Go.RowKit
set_option maxRecDepth 100000
theorem jd:(Rows.topWholeRow.named==Tryz.pinned.checked.prog.varsNamed 4)=true:=by kernel_rfl
end Go.Proofs.YtfljhldgncdifaaGreat
