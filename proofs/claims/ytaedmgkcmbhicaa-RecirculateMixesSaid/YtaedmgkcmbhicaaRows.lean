/-
  No cell of these rows narrows 'for every input' (looked for: loops, veiled, ifaces, maps, wideKeys, modest, calm, conditions, laid).
  DERIVED. THE GIVEN ROWS OF THIS SEAT. 5 by the template 'for every input the law returns true; each argument reads behind the call as it read before'; 0 by the template 'total and deterministic' (their statements: YtaedmgkcmbhicaaTotals.lean).
  GIVEN WITH THE SEED: the statements are not yours to turn. If you find one false, say at which input.
  Laid BY PROGRAM, IN A SANDBOX (cutbox-rows.mjs): the forced cells as the released guide's own fill.sh prints them over the translation 12fd65775dd349f2… (all of the seat's roots in one cut). By AI agents, Wed Nov 11 2026. No macro, syntax, notation, axiom, sorry.
-/
import Derived.Test.YtaedmgkcmbhicaaChecked
import GoSem.Claim
import GoSem.ClaimJoined
import GoSem.ClaimMapViews
import Derived.JoinedTies
import Derived.KernelRfl
namespace Go.Proofs.Ytaedmgkcmbhicaa
/- THE CELL 'sum', in the pinned program and in every row, IS THE sha256 OF THE DUMP (.gsa) THAT YtaedmgkcmbhicaaProg.lean LOADS. Nothing in Lean hashes anything: it is a label: what it is worth is what the hold of that sum in a sandbox is worth. -/
noncomputable def Try.pinned : Pinned := { name := "ytaedmgkcmbhicaa", sum := "12fd65775dd349f2ab34ccf9f63a86667263bbf511b27c4b0dbe030aed337cea", checked := Try.checked }
namespace Rows
def none {H : Type} : Left H := { results := [], args := [] }

/-- 'minecontrollaw14.RecirculateWays': WHATEVER THE INPUT: true; the input reads as it did. -/
def recirculateWaysSpec : ChangeSpec := { name := "recirculateWays", fn := fun _ => fun
  | [d1, d2] => { results := [.lit (.bool true)], args := [d1, d2] }
  | _ => none }
def recirculateWaysRow : OpenClaim := { program := "ytaedmgkcmbhicaa", sum := "12fd65775dd349f2ab34ccf9f63a86667263bbf511b27c4b0dbe030aed337cea", func := "minecontrol/minecontrollaw14.RecirculateWays", spec := "recirculateWays", apart := false }
def RecirculateWaysSaid : Prop := recirculateWaysRow.holds Try.pinned (OpenSpec.ofChange recirculateWaysSpec)

/-- ITS FALSE NEIGHBOUR: 'it returns false'. Refute it at one input. -/
def recirculateWaysWrong : ChangeSpec := { name := "recirculateWays", fn := fun _ => fun
  | [d1, d2] => { results := [.lit (.bool false)], args := [d1, d2] }
  | _ => none }
def RecirculateWaysWrongFalsely : Prop := recirculateWaysRow.holds Try.pinned (OpenSpec.ofChange recirculateWaysWrong)

/-- 'minecontrollaw14.RecirculateFinds': WHATEVER THE INPUT: true; the input reads as it did. -/
def recirculateFindsSpec : ChangeSpec := { name := "recirculateFinds", fn := fun _ => fun
  | [d] => { results := [.lit (.bool true)], args := [d] }
  | _ => none }
def recirculateFindsRow : OpenClaim := { program := "ytaedmgkcmbhicaa", sum := "12fd65775dd349f2ab34ccf9f63a86667263bbf511b27c4b0dbe030aed337cea", func := "minecontrol/minecontrollaw14.RecirculateFinds", spec := "recirculateFinds", recurses := true, apart := false }
def RecirculateFindsSaid : Prop := recirculateFindsRow.holds Try.pinned (OpenSpec.ofChange recirculateFindsSpec)

/-- ITS FALSE NEIGHBOUR: 'it returns false'. Refute it at one input. -/
def recirculateFindsWrong : ChangeSpec := { name := "recirculateFinds", fn := fun _ => fun
  | [d] => { results := [.lit (.bool false)], args := [d] }
  | _ => none }
def RecirculateFindsWrongFalsely : Prop := recirculateFindsRow.holds Try.pinned (OpenSpec.ofChange recirculateFindsWrong)

/-- 'minecontrollaw14.RecirculateTrue': WHATEVER THE INPUT: true; the input reads as it did. -/
def recirculateTrueSpec : ChangeSpec := { name := "recirculateTrue", fn := fun _ => fun
  | [d1, d2] => { results := [.lit (.bool true)], args := [d1, d2] }
  | _ => none }
def recirculateTrueRow : OpenClaim := { program := "ytaedmgkcmbhicaa", sum := "12fd65775dd349f2ab34ccf9f63a86667263bbf511b27c4b0dbe030aed337cea", func := "minecontrol/minecontrollaw14.RecirculateTrue", spec := "recirculateTrue", apart := false }
def RecirculateTrueSaid : Prop := recirculateTrueRow.holds Try.pinned (OpenSpec.ofChange recirculateTrueSpec)

/-- ITS FALSE NEIGHBOUR: 'it returns false'. Refute it at one input. -/
def recirculateTrueWrong : ChangeSpec := { name := "recirculateTrue", fn := fun _ => fun
  | [d1, d2] => { results := [.lit (.bool false)], args := [d1, d2] }
  | _ => none }
def RecirculateTrueWrongFalsely : Prop := recirculateTrueRow.holds Try.pinned (OpenSpec.ofChange recirculateTrueWrong)

/-- 'minecontrollaw14.RecirculateWider': WHATEVER THE INPUT: true; the input reads as it did. -/
def recirculateWiderSpec : ChangeSpec := { name := "recirculateWider", fn := fun _ => fun
  | [d1, d2, d3] => { results := [.lit (.bool true)], args := [d1, d2, d3] }
  | _ => none }
def recirculateWiderRow : OpenClaim := { program := "ytaedmgkcmbhicaa", sum := "12fd65775dd349f2ab34ccf9f63a86667263bbf511b27c4b0dbe030aed337cea", func := "minecontrol/minecontrollaw14.RecirculateWider", spec := "recirculateWider", apart := false }
def RecirculateWiderSaid : Prop := recirculateWiderRow.holds Try.pinned (OpenSpec.ofChange recirculateWiderSpec)

/-- ITS FALSE NEIGHBOUR: 'it returns false'. Refute it at one input. -/
def recirculateWiderWrong : ChangeSpec := { name := "recirculateWider", fn := fun _ => fun
  | [d1, d2, d3] => { results := [.lit (.bool false)], args := [d1, d2, d3] }
  | _ => none }
def RecirculateWiderWrongFalsely : Prop := recirculateWiderRow.holds Try.pinned (OpenSpec.ofChange recirculateWiderWrong)

/-- 'minecontrollaw14.RecirculateMixes': WHATEVER THE INPUT: true; the input reads as it did. -/
def recirculateMixesSpec : ChangeSpec := { name := "recirculateMixes", fn := fun _ => fun
  | [d1, d2, d3] => { results := [.lit (.bool true)], args := [d1, d2, d3] }
  | _ => none }
def recirculateMixesRow : OpenClaim := { program := "ytaedmgkcmbhicaa", sum := "12fd65775dd349f2ab34ccf9f63a86667263bbf511b27c4b0dbe030aed337cea", func := "minecontrol/minecontrollaw14.RecirculateMixes", spec := "recirculateMixes", apart := false }
def RecirculateMixesSaid : Prop := recirculateMixesRow.holds Try.pinned (OpenSpec.ofChange recirculateMixesSpec)

/-- ITS FALSE NEIGHBOUR: 'it returns false'. Refute it at one input. -/
def recirculateMixesWrong : ChangeSpec := { name := "recirculateMixes", fn := fun _ => fun
  | [d1, d2, d3] => { results := [.lit (.bool false)], args := [d1, d2, d3] }
  | _ => none }
def RecirculateMixesWrongFalsely : Prop := recirculateMixesRow.holds Try.pinned (OpenSpec.ofChange recirculateMixesWrong)

/- THE SECOND FORM. 'bulk': how many values and letters a reading holds, each counted each time it is reached (what is shared counts as often as it is met; a slice's spare places count too). A statement '..UptoSaid' is the law's where the arguments, and the package variables that the reading takes, are together of bulk at most 1048576: NARROWER than '..Said'. Prove '..Said' where nothing that the law and all that it calls make is longer than what came in: it says more and counts as full. Else prove '..UptoSaid'. A law counts once. -/
mutual
def uptoBulk {H : Type} : DataW H → Nat
  | .lit (.string bytes) => bytes.length + 1
  | .lit _ => 1
  | .nil => 1
  | .ptr d => uptoBulk d + 1
  | .slice elems spare => uptoBulkAll elems + uptoBulkAll spare + 1
  | .agg parts => uptoBulkAll parts + 1
  | .iface _ d => uptoBulk d + 1
  | .map entries => uptoBulkEntries entries + 1
  | .held _ => 1
def uptoBulkAll {H : Type} : List (DataW H) → Nat
  | [] => 0
  | d :: r => uptoBulk d + uptoBulkAll r
def uptoBulkEntries {H : Type} : List (Lit × DataW H) → Nat
  | [] => 0
  | x :: r => uptoBulkEntry x + uptoBulkEntries r
def uptoBulkEntry {H : Type} : Lit × DataW H → Nat
  | (.string bytes, d) => bytes.length + uptoBulk d + 1
  | (_, d) => uptoBulk d + 1
 end
def uptoSmall : (H : Type) → List (DataW H) → Bool := fun _ ds => decide (uptoBulkAll ds ≤ 1048576)
def OpenSpec.upto (s : _root_.Go.ChangeSpec) : _root_.Go.OpenSpec := { _root_.Go.OpenSpec.ofChange s with cond := some uptoSmall }

/-- 'minecontrollaw14.RecirculateWays', WHERE WHAT IT READS IS OF BULK AT MOST 1048576: true; the input reads as it did. -/
def recirculateWaysUptoRow : OpenClaim := { program := "ytaedmgkcmbhicaa", sum := "12fd65775dd349f2ab34ccf9f63a86667263bbf511b27c4b0dbe030aed337cea", func := "minecontrol/minecontrollaw14.RecirculateWays", spec := "recirculateWays", apart := false, narrowed := true }
def RecirculateWaysUptoSaid : Prop := recirculateWaysUptoRow.holds Try.pinned (OpenSpec.upto recirculateWaysSpec)

/-- 'minecontrollaw14.RecirculateFinds', WHERE WHAT IT READS IS OF BULK AT MOST 1048576: true; the input reads as it did. -/
def recirculateFindsUptoRow : OpenClaim := { program := "ytaedmgkcmbhicaa", sum := "12fd65775dd349f2ab34ccf9f63a86667263bbf511b27c4b0dbe030aed337cea", func := "minecontrol/minecontrollaw14.RecirculateFinds", spec := "recirculateFinds", recurses := true, apart := false, narrowed := true }
def RecirculateFindsUptoSaid : Prop := recirculateFindsUptoRow.holds Try.pinned (OpenSpec.upto recirculateFindsSpec)

/-- 'minecontrollaw14.RecirculateTrue', WHERE WHAT IT READS IS OF BULK AT MOST 1048576: true; the input reads as it did. -/
def recirculateTrueUptoRow : OpenClaim := { program := "ytaedmgkcmbhicaa", sum := "12fd65775dd349f2ab34ccf9f63a86667263bbf511b27c4b0dbe030aed337cea", func := "minecontrol/minecontrollaw14.RecirculateTrue", spec := "recirculateTrue", apart := false, narrowed := true }
def RecirculateTrueUptoSaid : Prop := recirculateTrueUptoRow.holds Try.pinned (OpenSpec.upto recirculateTrueSpec)

/-- 'minecontrollaw14.RecirculateWider', WHERE WHAT IT READS IS OF BULK AT MOST 1048576: true; the input reads as it did. -/
def recirculateWiderUptoRow : OpenClaim := { program := "ytaedmgkcmbhicaa", sum := "12fd65775dd349f2ab34ccf9f63a86667263bbf511b27c4b0dbe030aed337cea", func := "minecontrol/minecontrollaw14.RecirculateWider", spec := "recirculateWider", apart := false, narrowed := true }
def RecirculateWiderUptoSaid : Prop := recirculateWiderUptoRow.holds Try.pinned (OpenSpec.upto recirculateWiderSpec)

/-- 'minecontrollaw14.RecirculateMixes', WHERE WHAT IT READS IS OF BULK AT MOST 1048576: true; the input reads as it did. -/
def recirculateMixesUptoRow : OpenClaim := { program := "ytaedmgkcmbhicaa", sum := "12fd65775dd349f2ab34ccf9f63a86667263bbf511b27c4b0dbe030aed337cea", func := "minecontrol/minecontrollaw14.RecirculateMixes", spec := "recirculateMixes", apart := false, narrowed := true }
def RecirculateMixesUptoSaid : Prop := recirculateMixesUptoRow.holds Try.pinned (OpenSpec.upto recirculateMixesSpec)

end Rows
end Go.Proofs.Ytaedmgkcmbhicaa
