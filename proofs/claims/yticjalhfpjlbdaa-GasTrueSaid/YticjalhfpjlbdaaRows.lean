/-
  No cell of these rows narrows 'for every input' (looked for: loops, veiled, ifaces, maps, wideKeys, modest, calm, conditions, laid).
  DERIVED. THE GIVEN ROWS OF THIS SEAT. 5 by the template 'for every input the law returns true; each argument reads behind the call as it read before'; 0 by the template 'total and deterministic' (their statements: YticjalhfpjlbdaaTotals.lean).
  GIVEN WITH THE SEED: the statements are not yours to turn. If you find one false, say at which input.
  Laid BY PROGRAM, IN A SANDBOX (cutbox-rows.mjs): the forced cells as the released guide's own fill.sh prints them over the translation 02643a7e90ba30a9… (all of the seat's roots in one cut). By AI agents, Wed Nov 11 2026. No macro, syntax, notation, axiom, sorry.
-/
import Derived.Test.YticjalhfpjlbdaaChecked
import GoSem.Claim
import GoSem.ClaimJoined
import GoSem.ClaimMapViews
import Derived.JoinedTies
import Derived.KernelRfl
namespace Go.Proofs.Yticjalhfpjlbdaa
/- THE CELL 'sum', in the pinned program and in every row, IS THE sha256 OF THE DUMP (.gsa) THAT YticjalhfpjlbdaaProg.lean LOADS. Nothing in Lean hashes anything: it is a label: what it is worth is what the hold of that sum in a sandbox is worth. -/
noncomputable def Try.pinned : Pinned := { name := "yticjalhfpjlbdaa", sum := "02643a7e90ba30a9581e9c33c153ac520e0c119a6985e9b0faaa937b437e8901", checked := Try.checked }
namespace Rows
def none {H : Type} : Left H := { results := [], args := [] }

/-- 'minecontrollaw16.GasBounds': WHATEVER THE INPUT: true; the input reads as it did. -/
def gasBoundsSpec : ChangeSpec := { name := "gasBounds", fn := fun _ => fun
  | [d1, d2, d3] => { results := [.lit (.bool true)], args := [d1, d2, d3] }
  | _ => none }
def gasBoundsRow : OpenClaim := { program := "yticjalhfpjlbdaa", sum := "02643a7e90ba30a9581e9c33c153ac520e0c119a6985e9b0faaa937b437e8901", func := "minecontrol/minecontrollaw16.GasBounds", spec := "gasBounds", apart := false }
def GasBoundsSaid : Prop := gasBoundsRow.holds Try.pinned (OpenSpec.ofChange gasBoundsSpec)

/-- ITS FALSE NEIGHBOUR: 'it returns false'. Refute it at one input. -/
def gasBoundsWrong : ChangeSpec := { name := "gasBounds", fn := fun _ => fun
  | [d1, d2, d3] => { results := [.lit (.bool false)], args := [d1, d2, d3] }
  | _ => none }
def GasBoundsWrongFalsely : Prop := gasBoundsRow.holds Try.pinned (OpenSpec.ofChange gasBoundsWrong)

/-- 'minecontrollaw16.GasAnyMine': WHATEVER THE INPUT: true; the input reads as it did. -/
def gasAnyMineSpec : ChangeSpec := { name := "gasAnyMine", fn := fun _ => fun
  | [d1, d2] => { results := [.lit (.bool true)], args := [d1, d2] }
  | _ => none }
def gasAnyMineRow : OpenClaim := { program := "yticjalhfpjlbdaa", sum := "02643a7e90ba30a9581e9c33c153ac520e0c119a6985e9b0faaa937b437e8901", func := "minecontrol/minecontrollaw16.GasAnyMine", spec := "gasAnyMine", apart := false }
def GasAnyMineSaid : Prop := gasAnyMineRow.holds Try.pinned (OpenSpec.ofChange gasAnyMineSpec)

/-- ITS FALSE NEIGHBOUR: 'it returns false'. Refute it at one input. -/
def gasAnyMineWrong : ChangeSpec := { name := "gasAnyMine", fn := fun _ => fun
  | [d1, d2] => { results := [.lit (.bool false)], args := [d1, d2] }
  | _ => none }
def GasAnyMineWrongFalsely : Prop := gasAnyMineRow.holds Try.pinned (OpenSpec.ofChange gasAnyMineWrong)

/-- 'minecontrollaw16.GasTrue': WHATEVER THE INPUT: true; the input reads as it did. -/
def gasTrueSpec : ChangeSpec := { name := "gasTrue", fn := fun _ => fun
  | [d] => { results := [.lit (.bool true)], args := [d] }
  | _ => none }
def gasTrueRow : OpenClaim := { program := "yticjalhfpjlbdaa", sum := "02643a7e90ba30a9581e9c33c153ac520e0c119a6985e9b0faaa937b437e8901", func := "minecontrol/minecontrollaw16.GasTrue", spec := "gasTrue", apart := false }
def GasTrueSaid : Prop := gasTrueRow.holds Try.pinned (OpenSpec.ofChange gasTrueSpec)

/-- ITS FALSE NEIGHBOUR: 'it returns false'. Refute it at one input. -/
def gasTrueWrong : ChangeSpec := { name := "gasTrue", fn := fun _ => fun
  | [d] => { results := [.lit (.bool false)], args := [d] }
  | _ => none }
def GasTrueWrongFalsely : Prop := gasTrueRow.holds Try.pinned (OpenSpec.ofChange gasTrueWrong)

/-- 'minecontrollaw16.GasGrows': WHATEVER THE INPUT: true; the input reads as it did. -/
def gasGrowsSpec : ChangeSpec := { name := "gasGrows", fn := fun _ => fun
  | [d1, d2, d3, d4] => { results := [.lit (.bool true)], args := [d1, d2, d3, d4] }
  | _ => none }
def gasGrowsRow : OpenClaim := { program := "yticjalhfpjlbdaa", sum := "02643a7e90ba30a9581e9c33c153ac520e0c119a6985e9b0faaa937b437e8901", func := "minecontrol/minecontrollaw16.GasGrows", spec := "gasGrows", apart := false }
def GasGrowsSaid : Prop := gasGrowsRow.holds Try.pinned (OpenSpec.ofChange gasGrowsSpec)

/-- ITS FALSE NEIGHBOUR: 'it returns false'. Refute it at one input. -/
def gasGrowsWrong : ChangeSpec := { name := "gasGrows", fn := fun _ => fun
  | [d1, d2, d3, d4] => { results := [.lit (.bool false)], args := [d1, d2, d3, d4] }
  | _ => none }
def GasGrowsWrongFalsely : Prop := gasGrowsRow.holds Try.pinned (OpenSpec.ofChange gasGrowsWrong)

/-- 'minecontrollaw16.GasAdds': WHATEVER THE INPUT: true; the input reads as it did. -/
def gasAddsSpec : ChangeSpec := { name := "gasAdds", fn := fun _ => fun
  | [d1, d2, d3] => { results := [.lit (.bool true)], args := [d1, d2, d3] }
  | _ => none }
def gasAddsRow : OpenClaim := { program := "yticjalhfpjlbdaa", sum := "02643a7e90ba30a9581e9c33c153ac520e0c119a6985e9b0faaa937b437e8901", func := "minecontrol/minecontrollaw16.GasAdds", spec := "gasAdds", apart := false }
def GasAddsSaid : Prop := gasAddsRow.holds Try.pinned (OpenSpec.ofChange gasAddsSpec)

/-- ITS FALSE NEIGHBOUR: 'it returns false'. Refute it at one input. -/
def gasAddsWrong : ChangeSpec := { name := "gasAdds", fn := fun _ => fun
  | [d1, d2, d3] => { results := [.lit (.bool false)], args := [d1, d2, d3] }
  | _ => none }
def GasAddsWrongFalsely : Prop := gasAddsRow.holds Try.pinned (OpenSpec.ofChange gasAddsWrong)

/- THE SECOND FORM. 'bulk': how many values and letters a reading holds, each counted each time it is reached (what is shared counts as often as it is met; a slice's spare places count too). A statement '..UptoSaid' is the law's where the arguments, and the package variables that the reading takes, are together of bulk at most 1048576: NARROWER than '..Said'. Prove '..Said' where nothing that the law and all that it calls make is longer than what came in: it says more and counts as full. Else prove '..UptoSaid'. A law counts once. -/
mutual
def uptoBulk {H : Type} : DataW H → Nat
  | .lit (.string bytes) => bytes.length + 1
  | .lit _ => 1
  | .nil => 1
  | .ptr d => uptoBulk d + 1
  | .slice elems spare => uptoBulkAll elems + uptoBulkAll spare + 1
  | .agg parts => uptoBulkAll parts + 1
  | .iface _ d => uptoBulk d + 1
  | .map entries => uptoBulkEntries entries + 1
  | .held _ => 1
def uptoBulkAll {H : Type} : List (DataW H) → Nat
  | [] => 0
  | d :: r => uptoBulk d + uptoBulkAll r
def uptoBulkEntries {H : Type} : List (Lit × DataW H) → Nat
  | [] => 0
  | x :: r => uptoBulkEntry x + uptoBulkEntries r
def uptoBulkEntry {H : Type} : Lit × DataW H → Nat
  | (.string bytes, d) => bytes.length + uptoBulk d + 1
  | (_, d) => uptoBulk d + 1
 end
def uptoSmall : (H : Type) → List (DataW H) → Bool := fun _ ds => decide (uptoBulkAll ds ≤ 1048576)
def OpenSpec.upto (s : _root_.Go.ChangeSpec) : _root_.Go.OpenSpec := { _root_.Go.OpenSpec.ofChange s with cond := some uptoSmall }

/-- 'minecontrollaw16.GasBounds', WHERE WHAT IT READS IS OF BULK AT MOST 1048576: true; the input reads as it did. -/
def gasBoundsUptoRow : OpenClaim := { program := "yticjalhfpjlbdaa", sum := "02643a7e90ba30a9581e9c33c153ac520e0c119a6985e9b0faaa937b437e8901", func := "minecontrol/minecontrollaw16.GasBounds", spec := "gasBounds", apart := false, narrowed := true }
def GasBoundsUptoSaid : Prop := gasBoundsUptoRow.holds Try.pinned (OpenSpec.upto gasBoundsSpec)

/-- 'minecontrollaw16.GasAnyMine', WHERE WHAT IT READS IS OF BULK AT MOST 1048576: true; the input reads as it did. -/
def gasAnyMineUptoRow : OpenClaim := { program := "yticjalhfpjlbdaa", sum := "02643a7e90ba30a9581e9c33c153ac520e0c119a6985e9b0faaa937b437e8901", func := "minecontrol/minecontrollaw16.GasAnyMine", spec := "gasAnyMine", apart := false, narrowed := true }
def GasAnyMineUptoSaid : Prop := gasAnyMineUptoRow.holds Try.pinned (OpenSpec.upto gasAnyMineSpec)

/-- 'minecontrollaw16.GasTrue', WHERE WHAT IT READS IS OF BULK AT MOST 1048576: true; the input reads as it did. -/
def gasTrueUptoRow : OpenClaim := { program := "yticjalhfpjlbdaa", sum := "02643a7e90ba30a9581e9c33c153ac520e0c119a6985e9b0faaa937b437e8901", func := "minecontrol/minecontrollaw16.GasTrue", spec := "gasTrue", apart := false, narrowed := true }
def GasTrueUptoSaid : Prop := gasTrueUptoRow.holds Try.pinned (OpenSpec.upto gasTrueSpec)

/-- 'minecontrollaw16.GasGrows', WHERE WHAT IT READS IS OF BULK AT MOST 1048576: true; the input reads as it did. -/
def gasGrowsUptoRow : OpenClaim := { program := "yticjalhfpjlbdaa", sum := "02643a7e90ba30a9581e9c33c153ac520e0c119a6985e9b0faaa937b437e8901", func := "minecontrol/minecontrollaw16.GasGrows", spec := "gasGrows", apart := false, narrowed := true }
def GasGrowsUptoSaid : Prop := gasGrowsUptoRow.holds Try.pinned (OpenSpec.upto gasGrowsSpec)

/-- 'minecontrollaw16.GasAdds', WHERE WHAT IT READS IS OF BULK AT MOST 1048576: true; the input reads as it did. -/
def gasAddsUptoRow : OpenClaim := { program := "yticjalhfpjlbdaa", sum := "02643a7e90ba30a9581e9c33c153ac520e0c119a6985e9b0faaa937b437e8901", func := "minecontrol/minecontrollaw16.GasAdds", spec := "gasAdds", apart := false, narrowed := true }
def GasAddsUptoSaid : Prop := gasAddsUptoRow.holds Try.pinned (OpenSpec.upto gasAddsSpec)

end Rows
end Go.Proofs.Yticjalhfpjlbdaa
