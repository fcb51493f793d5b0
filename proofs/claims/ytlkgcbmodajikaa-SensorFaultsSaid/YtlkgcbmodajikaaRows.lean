/-
  No cell of these rows narrows 'for every input' (looked for: loops, veiled, ifaces, maps, wideKeys, modest, calm, conditions, laid).
  DERIVED. THE GIVEN ROWS OF THIS SEAT. 7 by the template 'for every input the law returns true; each argument reads behind the call as it read before'; 0 by the template 'total and deterministic' (their statements: YtlkgcbmodajikaaTotals.lean).
  GIVEN WITH THE SEED: the statements are not yours to turn. If you find one false, say at which input.
  Laid BY PROGRAM, IN A SANDBOX (cutbox-rows.mjs): the forced cells as the released guide's own fill.sh prints them over the translation 67a694a7a861ea2e… (all of the seat's roots in one cut). By AI agents, Wed Nov 11 2026. No macro, syntax, notation, axiom, sorry.
-/
import Derived.Test.YtlkgcbmodajikaaChecked
import GoSem.Claim
import GoSem.ClaimJoined
import GoSem.ClaimMapViews
import Derived.JoinedTies
import Derived.KernelRfl
namespace Go.Proofs.Ytlkgcbmodajikaa
/- THE CELL 'sum', in the pinned program and in every row, IS THE sha256 OF THE DUMP (.gsa) THAT YtlkgcbmodajikaaProg.lean LOADS. Nothing in Lean hashes anything: it is a label: what it is worth is what the hold of that sum in a sandbox is worth. -/
noncomputable def Try.pinned : Pinned := { name := "ytlkgcbmodajikaa", sum := "67a694a7a861ea2ea843ca59661b7af9abb8a5aeee47683c289619268e06ea69", checked := Try.checked }
namespace Rows
def none {H : Type} : Left H := { results := [], args := [] }

/-- 'minecontrollaw05.SensorChecks': WHATEVER THE INPUT: true; the input reads as it did. -/
def sensorChecksSpec : ChangeSpec := { name := "sensorChecks", fn := fun _ => fun
  | [d1, d2, d3] => { results := [.lit (.bool true)], args := [d1, d2, d3] }
  | _ => none }
def sensorChecksRow : OpenClaim := { program := "ytlkgcbmodajikaa", sum := "67a694a7a861ea2ea843ca59661b7af9abb8a5aeee47683c289619268e06ea69", func := "minecontrol/minecontrollaw05.SensorChecks", spec := "sensorChecks", apart := false }
def SensorChecksSaid : Prop := sensorChecksRow.holds Try.pinned (OpenSpec.ofChange sensorChecksSpec)

/-- ITS FALSE NEIGHBOUR: 'it returns false'. Refute it at one input. -/
def sensorChecksWrong : ChangeSpec := { name := "sensorChecks", fn := fun _ => fun
  | [d1, d2, d3] => { results := [.lit (.bool false)], args := [d1, d2, d3] }
  | _ => none }
def SensorChecksWrongFalsely : Prop := sensorChecksRow.holds Try.pinned (OpenSpec.ofChange sensorChecksWrong)

/-- 'minecontrollaw05.SensorValues': WHATEVER THE INPUT: true; the input reads as it did. -/
def sensorValuesSpec : ChangeSpec := { name := "sensorValues", fn := fun _ => fun
  | [d1, d2, d3, d4] => { results := [.lit (.bool true)], args := [d1, d2, d3, d4] }
  | _ => none }
def sensorValuesRow : OpenClaim := { program := "ytlkgcbmodajikaa", sum := "67a694a7a861ea2ea843ca59661b7af9abb8a5aeee47683c289619268e06ea69", func := "minecontrol/minecontrollaw05.SensorValues", spec := "sensorValues", apart := false }
def SensorValuesSaid : Prop := sensorValuesRow.holds Try.pinned (OpenSpec.ofChange sensorValuesSpec)

/-- ITS FALSE NEIGHBOUR: 'it returns false'. Refute it at one input. -/
def sensorValuesWrong : ChangeSpec := { name := "sensorValues", fn := fun _ => fun
  | [d1, d2, d3, d4] => { results := [.lit (.bool false)], args := [d1, d2, d3, d4] }
  | _ => none }
def SensorValuesWrongFalsely : Prop := sensorValuesRow.holds Try.pinned (OpenSpec.ofChange sensorValuesWrong)

/-- 'minecontrollaw05.SensorDecodes': WHATEVER THE INPUT: true; the input reads as it did. -/
def sensorDecodesSpec : ChangeSpec := { name := "sensorDecodes", fn := fun _ => fun
  | [d1, d2, d3, d4] => { results := [.lit (.bool true)], args := [d1, d2, d3, d4] }
  | _ => none }
def sensorDecodesRow : OpenClaim := { program := "ytlkgcbmodajikaa", sum := "67a694a7a861ea2ea843ca59661b7af9abb8a5aeee47683c289619268e06ea69", func := "minecontrol/minecontrollaw05.SensorDecodes", spec := "sensorDecodes", apart := false }
def SensorDecodesSaid : Prop := sensorDecodesRow.holds Try.pinned (OpenSpec.ofChange sensorDecodesSpec)

/-- ITS FALSE NEIGHBOUR: 'it returns false'. Refute it at one input. -/
def sensorDecodesWrong : ChangeSpec := { name := "sensorDecodes", fn := fun _ => fun
  | [d1, d2, d3, d4] => { results := [.lit (.bool false)], args := [d1, d2, d3, d4] }
  | _ => none }
def SensorDecodesWrongFalsely : Prop := sensorDecodesRow.holds Try.pinned (OpenSpec.ofChange sensorDecodesWrong)

/-- 'minecontrollaw05.SensorTrue': WHATEVER THE INPUT: true; the input reads as it did. -/
def sensorTrueSpec : ChangeSpec := { name := "sensorTrue", fn := fun _ => fun
  | [d1, d2, d3, d4] => { results := [.lit (.bool true)], args := [d1, d2, d3, d4] }
  | _ => none }
def sensorTrueRow : OpenClaim := { program := "ytlkgcbmodajikaa", sum := "67a694a7a861ea2ea843ca59661b7af9abb8a5aeee47683c289619268e06ea69", func := "minecontrol/minecontrollaw05.SensorTrue", spec := "sensorTrue", apart := false }
def SensorTrueSaid : Prop := sensorTrueRow.holds Try.pinned (OpenSpec.ofChange sensorTrueSpec)

/-- ITS FALSE NEIGHBOUR: 'it returns false'. Refute it at one input. -/
def sensorTrueWrong : ChangeSpec := { name := "sensorTrue", fn := fun _ => fun
  | [d1, d2, d3, d4] => { results := [.lit (.bool false)], args := [d1, d2, d3, d4] }
  | _ => none }
def SensorTrueWrongFalsely : Prop := sensorTrueRow.holds Try.pinned (OpenSpec.ofChange sensorTrueWrong)

/-- 'minecontrollaw05.SensorFaults': WHATEVER THE INPUT: true; the input reads as it did. -/
def sensorFaultsSpec : ChangeSpec := { name := "sensorFaults", fn := fun _ => fun
  | [d1, d2, d3] => { results := [.lit (.bool true)], args := [d1, d2, d3] }
  | _ => none }
def sensorFaultsRow : OpenClaim := { program := "ytlkgcbmodajikaa", sum := "67a694a7a861ea2ea843ca59661b7af9abb8a5aeee47683c289619268e06ea69", func := "minecontrol/minecontrollaw05.SensorFaults", spec := "sensorFaults", apart := false }
def SensorFaultsSaid : Prop := sensorFaultsRow.holds Try.pinned (OpenSpec.ofChange sensorFaultsSpec)

/-- ITS FALSE NEIGHBOUR: 'it returns false'. Refute it at one input. -/
def sensorFaultsWrong : ChangeSpec := { name := "sensorFaults", fn := fun _ => fun
  | [d1, d2, d3] => { results := [.lit (.bool false)], args := [d1, d2, d3] }
  | _ => none }
def SensorFaultsWrongFalsely : Prop := sensorFaultsRow.holds Try.pinned (OpenSpec.ofChange sensorFaultsWrong)

/-- 'minecontrollaw05.SensorRaw': WHATEVER THE INPUT: true; the input reads as it did. -/
def sensorRawSpec : ChangeSpec := { name := "sensorRaw", fn := fun _ => fun
  | [d1, d2, d3] => { results := [.lit (.bool true)], args := [d1, d2, d3] }
  | _ => none }
def sensorRawRow : OpenClaim := { program := "ytlkgcbmodajikaa", sum := "67a694a7a861ea2ea843ca59661b7af9abb8a5aeee47683c289619268e06ea69", func := "minecontrol/minecontrollaw05.SensorRaw", spec := "sensorRaw", apart := false }
def SensorRawSaid : Prop := sensorRawRow.holds Try.pinned (OpenSpec.ofChange sensorRawSpec)

/-- ITS FALSE NEIGHBOUR: 'it returns false'. Refute it at one input. -/
def sensorRawWrong : ChangeSpec := { name := "sensorRaw", fn := fun _ => fun
  | [d1, d2, d3] => { results := [.lit (.bool false)], args := [d1, d2, d3] }
  | _ => none }
def SensorRawWrongFalsely : Prop := sensorRawRow.holds Try.pinned (OpenSpec.ofChange sensorRawWrong)

/-- 'minecontrollaw05.SensorBack': WHATEVER THE INPUT: true; the input reads as it did. -/
def sensorBackSpec : ChangeSpec := { name := "sensorBack", fn := fun _ => fun
  | [d1, d2] => { results := [.lit (.bool true)], args := [d1, d2] }
  | _ => none }
def sensorBackRow : OpenClaim := { program := "ytlkgcbmodajikaa", sum := "67a694a7a861ea2ea843ca59661b7af9abb8a5aeee47683c289619268e06ea69", func := "minecontrol/minecontrollaw05.SensorBack", spec := "sensorBack", apart := false }
def SensorBackSaid : Prop := sensorBackRow.holds Try.pinned (OpenSpec.ofChange sensorBackSpec)

/-- ITS FALSE NEIGHBOUR: 'it returns false'. Refute it at one input. -/
def sensorBackWrong : ChangeSpec := { name := "sensorBack", fn := fun _ => fun
  | [d1, d2] => { results := [.lit (.bool false)], args := [d1, d2] }
  | _ => none }
def SensorBackWrongFalsely : Prop := sensorBackRow.holds Try.pinned (OpenSpec.ofChange sensorBackWrong)

/- THE SECOND FORM. 'bulk': how many values and letters a reading holds, each counted each time it is reached (what is shared counts as often as it is met; a slice's spare places count too). A statement '..UptoSaid' is the law's where the arguments, and the package variables that the reading takes, are together of bulk at most 1048576: NARROWER than '..Said'. Prove '..Said' where nothing that the law and all that it calls make is longer than what came in: it says more and counts as full. Else prove '..UptoSaid'. A law counts once. -/
mutual
def uptoBulk {H : Type} : DataW H → Nat
  | .lit (.string bytes) => bytes.length + 1
  | .lit _ => 1
  | .nil => 1
  | .ptr d => uptoBulk d + 1
  | .slice elems spare => uptoBulkAll elems + uptoBulkAll spare + 1
  | .agg parts => uptoBulkAll parts + 1
  | .iface _ d => uptoBulk d + 1
  | .map entries => uptoBulkEntries entries + 1
  | .held _ => 1
def uptoBulkAll {H : Type} : List (DataW H) → Nat
  | [] => 0
  | d :: r => uptoBulk d + uptoBulkAll r
def uptoBulkEntries {H : Type} : List (Lit × DataW H) → Nat
  | [] => 0
  | x :: r => uptoBulkEntry x + uptoBulkEntries r
def uptoBulkEntry {H : Type} : Lit × DataW H → Nat
  | (.string bytes, d) => bytes.length + uptoBulk d + 1
  | (_, d) => uptoBulk d + 1
 end
def uptoSmall : (H : Type) → List (DataW H) → Bool := fun _ ds => decide (uptoBulkAll ds ≤ 1048576)
def OpenSpec.upto (s : _root_.Go.ChangeSpec) : _root_.Go.OpenSpec := { _root_.Go.OpenSpec.ofChange s with cond := some uptoSmall }

/-- 'minecontrollaw05.SensorChecks', WHERE WHAT IT READS IS OF BULK AT MOST 1048576: true; the input reads as it did. -/
def sensorChecksUptoRow : OpenClaim := { program := "ytlkgcbmodajikaa", sum := "67a694a7a861ea2ea843ca59661b7af9abb8a5aeee47683c289619268e06ea69", func := "minecontrol/minecontrollaw05.SensorChecks", spec := "sensorChecks", apart := false, narrowed := true }
def SensorChecksUptoSaid : Prop := sensorChecksUptoRow.holds Try.pinned (OpenSpec.upto sensorChecksSpec)

/-- 'minecontrollaw05.SensorValues', WHERE WHAT IT READS IS OF BULK AT MOST 1048576: true; the input reads as it did. -/
def sensorValuesUptoRow : OpenClaim := { program := "ytlkgcbmodajikaa", sum := "67a694a7a861ea2ea843ca59661b7af9abb8a5aeee47683c289619268e06ea69", func := "minecontrol/minecontrollaw05.SensorValues", spec := "sensorValues", apart := false, narrowed := true }
def SensorValuesUptoSaid : Prop := sensorValuesUptoRow.holds Try.pinned (OpenSpec.upto sensorValuesSpec)

/-- 'minecontrollaw05.SensorDecodes', WHERE WHAT IT READS IS OF BULK AT MOST 1048576: true; the input reads as it did. -/
def sensorDecodesUptoRow : OpenClaim := { program := "ytlkgcbmodajikaa", sum := "67a694a7a861ea2ea843ca59661b7af9abb8a5aeee47683c289619268e06ea69", func := "minecontrol/minecontrollaw05.SensorDecodes", spec := "sensorDecodes", apart := false, narrowed := true }
def SensorDecodesUptoSaid : Prop := sensorDecodesUptoRow.holds Try.pinned (OpenSpec.upto sensorDecodesSpec)

/-- 'minecontrollaw05.SensorTrue', WHERE WHAT IT READS IS OF BULK AT MOST 1048576: true; the input reads as it did. -/
def sensorTrueUptoRow : OpenClaim := { program := "ytlkgcbmodajikaa", sum := "67a694a7a861ea2ea843ca59661b7af9abb8a5aeee47683c289619268e06ea69", func := "minecontrol/minecontrollaw05.SensorTrue", spec := "sensorTrue", apart := false, narrowed := true }
def SensorTrueUptoSaid : Prop := sensorTrueUptoRow.holds Try.pinned (OpenSpec.upto sensorTrueSpec)

/-- 'minecontrollaw05.SensorFaults', WHERE WHAT IT READS IS OF BULK AT MOST 1048576: true; the input reads as it did. -/
def sensorFaultsUptoRow : OpenClaim := { program := "ytlkgcbmodajikaa", sum := "67a694a7a861ea2ea843ca59661b7af9abb8a5aeee47683c289619268e06ea69", func := "minecontrol/minecontrollaw05.SensorFaults", spec := "sensorFaults", apart := false, narrowed := true }
def SensorFaultsUptoSaid : Prop := sensorFaultsUptoRow.holds Try.pinned (OpenSpec.upto sensorFaultsSpec)

/-- 'minecontrollaw05.SensorRaw', WHERE WHAT IT READS IS OF BULK AT MOST 1048576: true; the input reads as it did. -/
def sensorRawUptoRow : OpenClaim := { program := "ytlkgcbmodajikaa", sum := "67a694a7a861ea2ea843ca59661b7af9abb8a5aeee47683c289619268e06ea69", func := "minecontrol/minecontrollaw05.SensorRaw", spec := "sensorRaw", apart := false, narrowed := true }
def SensorRawUptoSaid : Prop := sensorRawUptoRow.holds Try.pinned (OpenSpec.upto sensorRawSpec)

/-- 'minecontrollaw05.SensorBack', WHERE WHAT IT READS IS OF BULK AT MOST 1048576: true; the input reads as it did. -/
def sensorBackUptoRow : OpenClaim := { program := "ytlkgcbmodajikaa", sum := "67a694a7a861ea2ea843ca59661b7af9abb8a5aeee47683c289619268e06ea69", func := "minecontrol/minecontrollaw05.SensorBack", spec := "sensorBack", apart := false, narrowed := true }
def SensorBackUptoSaid : Prop := sensorBackUptoRow.holds Try.pinned (OpenSpec.upto sensorBackSpec)

end Rows
end Go.Proofs.Ytlkgcbmodajikaa
