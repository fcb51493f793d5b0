/- The abstract memory logic, part H: append to nothing; slices of slices; bytes as strings; literals. -/
import Derived.Test.YtmomjhbinkmefaaAmlG
import Derived.Laws.BytesArg
import Derived.Laws.StructEq
import Derived.Laws.Slices
namespace Go.Aml
open Go

section
variable {P : Program} {nt : Nat} {Q : XPost} {E : Env} {low loc : List AObj} {d : Option Nat} {ty : TypeId} {pos : String} {aft : Array Edge} {gd : Option (Nat × Bool)} {x y z : Operand} {t : TypeId} {all : Array Oper} {rest : List Oper}

/-! ### slices of slices -/

/-- A bound of a slice expression. -/
def BdIs (E : Env) (dflt : Nat) : Option Operand → Nat → Prop
  | none, l => l = dflt
  | some o, l => ∃ k m, PE E o = .int k m ∧ m = (l : Int)

/-! ### bytes as a string -/

end
end Go.Aml
