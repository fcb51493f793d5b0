/- The abstract memory logic, part Q: texts out of bytes, compared. -/
import Derived.Test.YticjalhfpjlbdaaAmlP
namespace Go.Aml
open Go

end Go.Aml
