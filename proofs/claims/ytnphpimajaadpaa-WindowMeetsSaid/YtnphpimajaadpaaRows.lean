/-
  No cell of these rows narrows 'for every input' (looked for: loops, veiled, ifaces, maps, wideKeys, modest, calm, conditions, laid).
  DERIVED. THE GIVEN ROWS OF THIS SEAT. 5 by the template 'for every input the law returns true; each argument reads behind the call as it read before'; 0 by the template 'total and deterministic' (their statements: YtnphpimajaadpaaTotals.lean).
  GIVEN WITH THE SEED: the statements are not yours to turn. If you find one false, say at which input.
  Laid BY PROGRAM, IN A SANDBOX (cutbox-rows.mjs): the forced cells as the released guide's own fill.sh prints them over the translation 192ee483378520ec… (all of the seat's roots in one cut). By AI agents, Wed Nov 11 2026. No macro, syntax, notation, axiom, sorry.
-/
import Derived.Test.YtnphpimajaadpaaChecked
import GoSem.Claim
import GoSem.ClaimJoined
import GoSem.ClaimMapViews
import Derived.JoinedTies
import Derived.KernelRfl
namespace Go.Proofs.Ytnphpimajaadpaa
/- THE CELL 'sum', in the pinned program and in every row, IS THE sha256 OF THE DUMP (.gsa) THAT YtnphpimajaadpaaProg.lean LOADS. Nothing in Lean hashes anything: it is a label: what it is worth is what the hold of that sum in a sandbox is worth. -/
noncomputable def Try.pinned : Pinned := { name := "ytnphpimajaadpaa", sum := "192ee483378520ece6290c9aab0f2160609390c2f2386c5f5acab858fb9e92ea", checked := Try.checked }
namespace Rows
def none {H : Type} : Left H := { results := [], args := [] }

/-- 'minecontrollaw06.WindowAbove': WHATEVER THE INPUT: true; the input reads as it did. -/
def windowAboveSpec : ChangeSpec := { name := "windowAbove", fn := fun _ => fun
  | [d1, d2, d3] => { results := [.lit (.bool true)], args := [d1, d2, d3] }
  | _ => none }
def windowAboveRow : OpenClaim := { program := "ytnphpimajaadpaa", sum := "192ee483378520ece6290c9aab0f2160609390c2f2386c5f5acab858fb9e92ea", func := "minecontrol/minecontrollaw06.WindowAbove", spec := "windowAbove", apart := false }
def WindowAboveSaid : Prop := windowAboveRow.holds Try.pinned (OpenSpec.ofChange windowAboveSpec)

/-- ITS FALSE NEIGHBOUR: 'it returns false'. Refute it at one input. -/
def windowAboveWrong : ChangeSpec := { name := "windowAbove", fn := fun _ => fun
  | [d1, d2, d3] => { results := [.lit (.bool false)], args := [d1, d2, d3] }
  | _ => none }
def WindowAboveWrongFalsely : Prop := windowAboveRow.holds Try.pinned (OpenSpec.ofChange windowAboveWrong)

/-- 'minecontrollaw06.WindowUntil': WHATEVER THE INPUT: true; the input reads as it did. -/
def windowUntilSpec : ChangeSpec := { name := "windowUntil", fn := fun _ => fun
  | [d1, d2] => { results := [.lit (.bool true)], args := [d1, d2] }
  | _ => none }
def windowUntilRow : OpenClaim := { program := "ytnphpimajaadpaa", sum := "192ee483378520ece6290c9aab0f2160609390c2f2386c5f5acab858fb9e92ea", func := "minecontrol/minecontrollaw06.WindowUntil", spec := "windowUntil", apart := false }
def WindowUntilSaid : Prop := windowUntilRow.holds Try.pinned (OpenSpec.ofChange windowUntilSpec)

/-- ITS FALSE NEIGHBOUR: 'it returns false'. Refute it at one input. -/
def windowUntilWrong : ChangeSpec := { name := "windowUntil", fn := fun _ => fun
  | [d1, d2] => { results := [.lit (.bool false)], args := [d1, d2] }
  | _ => none }
def WindowUntilWrongFalsely : Prop := windowUntilRow.holds Try.pinned (OpenSpec.ofChange windowUntilWrong)

/-- 'minecontrollaw06.WindowWidens': WHATEVER THE INPUT: true; the input reads as it did. -/
def windowWidensSpec : ChangeSpec := { name := "windowWidens", fn := fun _ => fun
  | [d1, d2, d3, d4] => { results := [.lit (.bool true)], args := [d1, d2, d3, d4] }
  | _ => none }
def windowWidensRow : OpenClaim := { program := "ytnphpimajaadpaa", sum := "192ee483378520ece6290c9aab0f2160609390c2f2386c5f5acab858fb9e92ea", func := "minecontrol/minecontrollaw06.WindowWidens", spec := "windowWidens", apart := false }
def WindowWidensSaid : Prop := windowWidensRow.holds Try.pinned (OpenSpec.ofChange windowWidensSpec)

/-- ITS FALSE NEIGHBOUR: 'it returns false'. Refute it at one input. -/
def windowWidensWrong : ChangeSpec := { name := "windowWidens", fn := fun _ => fun
  | [d1, d2, d3, d4] => { results := [.lit (.bool false)], args := [d1, d2, d3, d4] }
  | _ => none }
def WindowWidensWrongFalsely : Prop := windowWidensRow.holds Try.pinned (OpenSpec.ofChange windowWidensWrong)

/-- 'minecontrollaw06.WindowTogether': WHATEVER THE INPUT: true; the input reads as it did. -/
def windowTogetherSpec : ChangeSpec := { name := "windowTogether", fn := fun _ => fun
  | [d1, d2] => { results := [.lit (.bool true)], args := [d1, d2] }
  | _ => none }
def windowTogetherRow : OpenClaim := { program := "ytnphpimajaadpaa", sum := "192ee483378520ece6290c9aab0f2160609390c2f2386c5f5acab858fb9e92ea", func := "minecontrol/minecontrollaw06.WindowTogether", spec := "windowTogether", apart := false }
def WindowTogetherSaid : Prop := windowTogetherRow.holds Try.pinned (OpenSpec.ofChange windowTogetherSpec)

/-- ITS FALSE NEIGHBOUR: 'it returns false'. Refute it at one input. -/
def windowTogetherWrong : ChangeSpec := { name := "windowTogether", fn := fun _ => fun
  | [d1, d2] => { results := [.lit (.bool false)], args := [d1, d2] }
  | _ => none }
def WindowTogetherWrongFalsely : Prop := windowTogetherRow.holds Try.pinned (OpenSpec.ofChange windowTogetherWrong)

/-- 'minecontrollaw06.WindowMeets': WHATEVER THE INPUT: true; the input reads as it did. -/
def windowMeetsSpec : ChangeSpec := { name := "windowMeets", fn := fun _ => fun
  | [d1, d2] => { results := [.lit (.bool true)], args := [d1, d2] }
  | _ => none }
def windowMeetsRow : OpenClaim := { program := "ytnphpimajaadpaa", sum := "192ee483378520ece6290c9aab0f2160609390c2f2386c5f5acab858fb9e92ea", func := "minecontrol/minecontrollaw06.WindowMeets", spec := "windowMeets", apart := false }
def WindowMeetsSaid : Prop := windowMeetsRow.holds Try.pinned (OpenSpec.ofChange windowMeetsSpec)

/-- ITS FALSE NEIGHBOUR: 'it returns false'. Refute it at one input. -/
def windowMeetsWrong : ChangeSpec := { name := "windowMeets", fn := fun _ => fun
  | [d1, d2] => { results := [.lit (.bool false)], args := [d1, d2] }
  | _ => none }
def WindowMeetsWrongFalsely : Prop := windowMeetsRow.holds Try.pinned (OpenSpec.ofChange windowMeetsWrong)

/- THE SECOND FORM. 'bulk': how many values and letters a reading holds, each counted each time it is reached (what is shared counts as often as it is met; a slice's spare places count too). A statement '..UptoSaid' is the law's where the arguments, and the package variables that the reading takes, are together of bulk at most 1048576: NARROWER than '..Said'. Prove '..Said' where nothing that the law and all that it calls make is longer than what came in: it says more and counts as full. Else prove '..UptoSaid'. A law counts once. -/
mutual
def uptoBulk {H : Type} : DataW H → Nat
  | .lit (.string bytes) => bytes.length + 1
  | .lit _ => 1
  | .nil => 1
  | .ptr d => uptoBulk d + 1
  | .slice elems spare => uptoBulkAll elems + uptoBulkAll spare + 1
  | .agg parts => uptoBulkAll parts + 1
  | .iface _ d => uptoBulk d + 1
  | .map entries => uptoBulkEntries entries + 1
  | .held _ => 1
def uptoBulkAll {H : Type} : List (DataW H) → Nat
  | [] => 0
  | d :: r => uptoBulk d + uptoBulkAll r
def uptoBulkEntries {H : Type} : List (Lit × DataW H) → Nat
  | [] => 0
  | x :: r => uptoBulkEntry x + uptoBulkEntries r
def uptoBulkEntry {H : Type} : Lit × DataW H → Nat
  | (.string bytes, d) => bytes.length + uptoBulk d + 1
  | (_, d) => uptoBulk d + 1
 end
def uptoSmall : (H : Type) → List (DataW H) → Bool := fun _ ds => decide (uptoBulkAll ds ≤ 1048576)
def OpenSpec.upto (s : _root_.Go.ChangeSpec) : _root_.Go.OpenSpec := { _root_.Go.OpenSpec.ofChange s with cond := some uptoSmall }

/-- 'minecontrollaw06.WindowAbove', WHERE WHAT IT READS IS OF BULK AT MOST 1048576: true; the input reads as it did. -/
def windowAboveUptoRow : OpenClaim := { program := "ytnphpimajaadpaa", sum := "192ee483378520ece6290c9aab0f2160609390c2f2386c5f5acab858fb9e92ea", func := "minecontrol/minecontrollaw06.WindowAbove", spec := "windowAbove", apart := false, narrowed := true }
def WindowAboveUptoSaid : Prop := windowAboveUptoRow.holds Try.pinned (OpenSpec.upto windowAboveSpec)

/-- 'minecontrollaw06.WindowUntil', WHERE WHAT IT READS IS OF BULK AT MOST 1048576: true; the input reads as it did. -/
def windowUntilUptoRow : OpenClaim := { program := "ytnphpimajaadpaa", sum := "192ee483378520ece6290c9aab0f2160609390c2f2386c5f5acab858fb9e92ea", func := "minecontrol/minecontrollaw06.WindowUntil", spec := "windowUntil", apart := false, narrowed := true }
def WindowUntilUptoSaid : Prop := windowUntilUptoRow.holds Try.pinned (OpenSpec.upto windowUntilSpec)

/-- 'minecontrollaw06.WindowWidens', WHERE WHAT IT READS IS OF BULK AT MOST 1048576: true; the input reads as it did. -/
def windowWidensUptoRow : OpenClaim := { program := "ytnphpimajaadpaa", sum := "192ee483378520ece6290c9aab0f2160609390c2f2386c5f5acab858fb9e92ea", func := "minecontrol/minecontrollaw06.WindowWidens", spec := "windowWidens", apart := false, narrowed := true }
def WindowWidensUptoSaid : Prop := windowWidensUptoRow.holds Try.pinned (OpenSpec.upto windowWidensSpec)

/-- 'minecontrollaw06.WindowTogether', WHERE WHAT IT READS IS OF BULK AT MOST 1048576: true; the input reads as it did. -/
def windowTogetherUptoRow : OpenClaim := { program := "ytnphpimajaadpaa", sum := "192ee483378520ece6290c9aab0f2160609390c2f2386c5f5acab858fb9e92ea", func := "minecontrol/minecontrollaw06.WindowTogether", spec := "windowTogether", apart := false, narrowed := true }
def WindowTogetherUptoSaid : Prop := windowTogetherUptoRow.holds Try.pinned (OpenSpec.upto windowTogetherSpec)

/-- 'minecontrollaw06.WindowMeets', WHERE WHAT IT READS IS OF BULK AT MOST 1048576: true; the input reads as it did. -/
def windowMeetsUptoRow : OpenClaim := { program := "ytnphpimajaadpaa", sum := "192ee483378520ece6290c9aab0f2160609390c2f2386c5f5acab858fb9e92ea", func := "minecontrol/minecontrollaw06.WindowMeets", spec := "windowMeets", apart := false, narrowed := true }
def WindowMeetsUptoSaid : Prop := windowMeetsUptoRow.holds Try.pinned (OpenSpec.upto windowMeetsSpec)

end Rows
end Go.Proofs.Ytnphpimajaadpaa
