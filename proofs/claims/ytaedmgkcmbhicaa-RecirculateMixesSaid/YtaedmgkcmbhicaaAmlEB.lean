/- A range over an iterator that keeps a whole number of its own in a cell: the law, for rounds that all go on. -/
import Derived.RangeFuncNested
import Derived.RangeFuncBound
import Derived.RangeFuncCalls
import Derived.RangeFuncLeaves
import Derived.RangeFuncBox
import Derived.Maps.AppendAt
import Derived.Maps.OwnIn
import Derived.Maps.Views
import Derived.Shelf.Abstract
import Derived.WalkKit
import Derived.OwnWalkIn
import Derived.TacticsInMore
import Derived.LoopNIn
import Derived.LoopIn
import Derived.Stop.RegionWithIn
import Derived.Test.YtaedmgkcmbhicaaAmlED
namespace Go.Aml
open Go Go.RowKit

def SeqB (n : Nat) (P : Program) (gf : Nat) (lb : Array Value) (B N : Nat) (sq : Nat → Int) (Rd : World → Prop) : Prop :=
  ∀ (l : Nat) (J : Nat → Int → World → Prop) (W : World),
    (∀ k v W, J k v W → W.cell? ⟨B, 0, none⟩ = some (.int .i64 v) ∧ W.frozen? ⟨B, 0, none⟩ = false) → (∀ k v W, J k v W → Rd W) →
    (∀ k v v' W, J k v W → J k v' (W.setCell ⟨B, 0, none⟩ (.int .i64 v'))) →
    (∀ k W, k < N → J k (sq k) W → YieldAt Fence.wide (n - 1) P l #[.int .i64 (sq k)] W fun e W' => e = .returned (.bool true) ∧ J (k + 1) (sq k) W') →
    J 0 (sq 0) W → CallsIn Fence.wide n P gf (#[.func (.yield l) #[] #[]] ++ lb) W fun e W' => (∃ v, e = .returned v) ∧ J N (sq N) W'

variable {n : Nat} {P : Program}
end Go.Aml
