/- The abstract memory logic, part ED: a plain contract of a function that yields a new row of ints, to one of this logic. -/
import Derived.Test.YtnhdamflfebofaaAmlEC
namespace Go.Aml
open Go Go.RowKit

def NewInts (k : IntKind) (out : List Int) (w w' : World) (v : Value) : Prop :=
  v = .slice none 0 0 ∧ out = [] ∨ ∃ b cap, v = .slice (some ⟨b, 0, none⟩) out.length cap ∧ w.heap.size ≤ b ∧ b < w'.heap.size ∧ out.length ≤ cap ∧ ∀ (i : Nat) (n : Int), out[i]? = some n → w'.cell? ⟨b, i, none⟩ = some (.int k n)
end Go.Aml
