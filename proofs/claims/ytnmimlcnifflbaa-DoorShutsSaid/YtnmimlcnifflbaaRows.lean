/-
  No cell of these rows narrows 'for every input' (looked for: loops, veiled, ifaces, maps, wideKeys, modest, calm, conditions, laid).
  DERIVED. THE GIVEN ROWS OF THIS SEAT. 5 by the template 'for every input the law returns true; each argument reads behind the call as it read before'; 0 by the template 'total and deterministic' (their statements: YtnmimlcnifflbaaTotals.lean).
  GIVEN WITH THE SEED: the statements are not yours to turn. If you find one false, say at which input.
  Laid BY PROGRAM, IN A SANDBOX (cutbox-rows.mjs): the forced cells as the released guide's own fill.sh prints them over the translation fad787a93bbc30a0… (all of the seat's roots in one cut). By AI agents, Wed Nov 11 2026. No macro, syntax, notation, axiom, sorry.
-/
import Derived.Test.YtnmimlcnifflbaaChecked
import GoSem.Claim
import GoSem.ClaimJoined
import GoSem.ClaimMapViews
import Derived.JoinedTies
import Derived.KernelRfl
namespace Go.Proofs.Ytnmimlcnifflbaa
/- THE CELL 'sum', in the pinned program and in every row, IS THE sha256 OF THE DUMP (.gsa) THAT YtnmimlcnifflbaaProg.lean LOADS. Nothing in Lean hashes anything: it is a label: what it is worth is what the hold of that sum in a sandbox is worth. -/
noncomputable def Try.pinned : Pinned := { name := "ytnmimlcnifflbaa", sum := "fad787a93bbc30a0715b0f468f5d7b1255e8d85e168a92475e94d49035b038f9", checked := Try.checked }
namespace Rows
def none {H : Type} : Left H := { results := [], args := [] }

/-- 'minecontrollaw08.DoorChecks': WHATEVER THE INPUT: true; the input reads as it did. -/
def doorChecksSpec : ChangeSpec := { name := "doorChecks", fn := fun _ => fun
  | [d1, d2, d3, d4, d5] => { results := [.lit (.bool true)], args := [d1, d2, d3, d4, d5] }
  | _ => none }
def doorChecksRow : OpenClaim := { program := "ytnmimlcnifflbaa", sum := "fad787a93bbc30a0715b0f468f5d7b1255e8d85e168a92475e94d49035b038f9", func := "minecontrol/minecontrollaw08.DoorChecks", spec := "doorChecks", apart := false }
def DoorChecksSaid : Prop := doorChecksRow.holds Try.pinned (OpenSpec.ofChange doorChecksSpec)

/-- ITS FALSE NEIGHBOUR: 'it returns false'. Refute it at one input. -/
def doorChecksWrong : ChangeSpec := { name := "doorChecks", fn := fun _ => fun
  | [d1, d2, d3, d4, d5] => { results := [.lit (.bool false)], args := [d1, d2, d3, d4, d5] }
  | _ => none }
def DoorChecksWrongFalsely : Prop := doorChecksRow.holds Try.pinned (OpenSpec.ofChange doorChecksWrong)

/-- 'minecontrollaw08.DoorOpens': WHATEVER THE INPUT: true; the input reads as it did. -/
def doorOpensSpec : ChangeSpec := { name := "doorOpens", fn := fun _ => fun
  | [d1, d2, d3, d4] => { results := [.lit (.bool true)], args := [d1, d2, d3, d4] }
  | _ => none }
def doorOpensRow : OpenClaim := { program := "ytnmimlcnifflbaa", sum := "fad787a93bbc30a0715b0f468f5d7b1255e8d85e168a92475e94d49035b038f9", func := "minecontrol/minecontrollaw08.DoorOpens", spec := "doorOpens", apart := false }
def DoorOpensSaid : Prop := doorOpensRow.holds Try.pinned (OpenSpec.ofChange doorOpensSpec)

/-- ITS FALSE NEIGHBOUR: 'it returns false'. Refute it at one input. -/
def doorOpensWrong : ChangeSpec := { name := "doorOpens", fn := fun _ => fun
  | [d1, d2, d3, d4] => { results := [.lit (.bool false)], args := [d1, d2, d3, d4] }
  | _ => none }
def DoorOpensWrongFalsely : Prop := doorOpensRow.holds Try.pinned (OpenSpec.ofChange doorOpensWrong)

/-- 'minecontrollaw08.DoorLocks': WHATEVER THE INPUT: true; the input reads as it did. -/
def doorLocksSpec : ChangeSpec := { name := "doorLocks", fn := fun _ => fun
  | [d1, d2] => { results := [.lit (.bool true)], args := [d1, d2] }
  | _ => none }
def doorLocksRow : OpenClaim := { program := "ytnmimlcnifflbaa", sum := "fad787a93bbc30a0715b0f468f5d7b1255e8d85e168a92475e94d49035b038f9", func := "minecontrol/minecontrollaw08.DoorLocks", spec := "doorLocks", apart := false }
def DoorLocksSaid : Prop := doorLocksRow.holds Try.pinned (OpenSpec.ofChange doorLocksSpec)

/-- ITS FALSE NEIGHBOUR: 'it returns false'. Refute it at one input. -/
def doorLocksWrong : ChangeSpec := { name := "doorLocks", fn := fun _ => fun
  | [d1, d2] => { results := [.lit (.bool false)], args := [d1, d2] }
  | _ => none }
def DoorLocksWrongFalsely : Prop := doorLocksRow.holds Try.pinned (OpenSpec.ofChange doorLocksWrong)

/-- 'minecontrollaw08.DoorShuts': WHATEVER THE INPUT: true; the input reads as it did. -/
def doorShutsSpec : ChangeSpec := { name := "doorShuts", fn := fun _ => fun
  | [d1, d2] => { results := [.lit (.bool true)], args := [d1, d2] }
  | _ => none }
def doorShutsRow : OpenClaim := { program := "ytnmimlcnifflbaa", sum := "fad787a93bbc30a0715b0f468f5d7b1255e8d85e168a92475e94d49035b038f9", func := "minecontrol/minecontrollaw08.DoorShuts", spec := "doorShuts", apart := false }
def DoorShutsSaid : Prop := doorShutsRow.holds Try.pinned (OpenSpec.ofChange doorShutsSpec)

/-- ITS FALSE NEIGHBOUR: 'it returns false'. Refute it at one input. -/
def doorShutsWrong : ChangeSpec := { name := "doorShuts", fn := fun _ => fun
  | [d1, d2] => { results := [.lit (.bool false)], args := [d1, d2] }
  | _ => none }
def DoorShutsWrongFalsely : Prop := doorShutsRow.holds Try.pinned (OpenSpec.ofChange doorShutsWrong)

/-- 'minecontrollaw08.DoorCommands': WHATEVER THE INPUT: true; the input reads as it did. -/
def doorCommandsSpec : ChangeSpec := { name := "doorCommands", fn := fun _ => fun
  | [d1, d2, d3, d4, d5, d6] => { results := [.lit (.bool true)], args := [d1, d2, d3, d4, d5, d6] }
  | _ => none }
def doorCommandsRow : OpenClaim := { program := "ytnmimlcnifflbaa", sum := "fad787a93bbc30a0715b0f468f5d7b1255e8d85e168a92475e94d49035b038f9", func := "minecontrol/minecontrollaw08.DoorCommands", spec := "doorCommands", apart := false }
def DoorCommandsSaid : Prop := doorCommandsRow.holds Try.pinned (OpenSpec.ofChange doorCommandsSpec)

/-- ITS FALSE NEIGHBOUR: 'it returns false'. Refute it at one input. -/
def doorCommandsWrong : ChangeSpec := { name := "doorCommands", fn := fun _ => fun
  | [d1, d2, d3, d4, d5, d6] => { results := [.lit (.bool false)], args := [d1, d2, d3, d4, d5, d6] }
  | _ => none }
def DoorCommandsWrongFalsely : Prop := doorCommandsRow.holds Try.pinned (OpenSpec.ofChange doorCommandsWrong)

/- THE SECOND FORM. 'bulk': how many values and letters a reading holds, each counted each time it is reached (what is shared counts as often as it is met; a slice's spare places count too). A statement '..UptoSaid' is the law's where the arguments, and the package variables that the reading takes, are together of bulk at most 1048576: NARROWER than '..Said'. Prove '..Said' where nothing that the law and all that it calls make is longer than what came in: it says more and counts as full. Else prove '..UptoSaid'. A law counts once. -/
mutual
def uptoBulk {H : Type} : DataW H → Nat
  | .lit (.string bytes) => bytes.length + 1
  | .lit _ => 1
  | .nil => 1
  | .ptr d => uptoBulk d + 1
  | .slice elems spare => uptoBulkAll elems + uptoBulkAll spare + 1
  | .agg parts => uptoBulkAll parts + 1
  | .iface _ d => uptoBulk d + 1
  | .map entries => uptoBulkEntries entries + 1
  | .held _ => 1
def uptoBulkAll {H : Type} : List (DataW H) → Nat
  | [] => 0
  | d :: r => uptoBulk d + uptoBulkAll r
def uptoBulkEntries {H : Type} : List (Lit × DataW H) → Nat
  | [] => 0
  | x :: r => uptoBulkEntry x + uptoBulkEntries r
def uptoBulkEntry {H : Type} : Lit × DataW H → Nat
  | (.string bytes, d) => bytes.length + uptoBulk d + 1
  | (_, d) => uptoBulk d + 1
 end
def uptoSmall : (H : Type) → List (DataW H) → Bool := fun _ ds => decide (uptoBulkAll ds ≤ 1048576)
def OpenSpec.upto (s : _root_.Go.ChangeSpec) : _root_.Go.OpenSpec := { _root_.Go.OpenSpec.ofChange s with cond := some uptoSmall }

/-- 'minecontrollaw08.DoorChecks', WHERE WHAT IT READS IS OF BULK AT MOST 1048576: true; the input reads as it did. -/
def doorChecksUptoRow : OpenClaim := { program := "ytnmimlcnifflbaa", sum := "fad787a93bbc30a0715b0f468f5d7b1255e8d85e168a92475e94d49035b038f9", func := "minecontrol/minecontrollaw08.DoorChecks", spec := "doorChecks", apart := false, narrowed := true }
def DoorChecksUptoSaid : Prop := doorChecksUptoRow.holds Try.pinned (OpenSpec.upto doorChecksSpec)

/-- 'minecontrollaw08.DoorOpens', WHERE WHAT IT READS IS OF BULK AT MOST 1048576: true; the input reads as it did. -/
def doorOpensUptoRow : OpenClaim := { program := "ytnmimlcnifflbaa", sum := "fad787a93bbc30a0715b0f468f5d7b1255e8d85e168a92475e94d49035b038f9", func := "minecontrol/minecontrollaw08.DoorOpens", spec := "doorOpens", apart := false, narrowed := true }
def DoorOpensUptoSaid : Prop := doorOpensUptoRow.holds Try.pinned (OpenSpec.upto doorOpensSpec)

/-- 'minecontrollaw08.DoorLocks', WHERE WHAT IT READS IS OF BULK AT MOST 1048576: true; the input reads as it did. -/
def doorLocksUptoRow : OpenClaim := { program := "ytnmimlcnifflbaa", sum := "fad787a93bbc30a0715b0f468f5d7b1255e8d85e168a92475e94d49035b038f9", func := "minecontrol/minecontrollaw08.DoorLocks", spec := "doorLocks", apart := false, narrowed := true }
def DoorLocksUptoSaid : Prop := doorLocksUptoRow.holds Try.pinned (OpenSpec.upto doorLocksSpec)

/-- 'minecontrollaw08.DoorShuts', WHERE WHAT IT READS IS OF BULK AT MOST 1048576: true; the input reads as it did. -/
def doorShutsUptoRow : OpenClaim := { program := "ytnmimlcnifflbaa", sum := "fad787a93bbc30a0715b0f468f5d7b1255e8d85e168a92475e94d49035b038f9", func := "minecontrol/minecontrollaw08.DoorShuts", spec := "doorShuts", apart := false, narrowed := true }
def DoorShutsUptoSaid : Prop := doorShutsUptoRow.holds Try.pinned (OpenSpec.upto doorShutsSpec)

/-- 'minecontrollaw08.DoorCommands', WHERE WHAT IT READS IS OF BULK AT MOST 1048576: true; the input reads as it did. -/
def doorCommandsUptoRow : OpenClaim := { program := "ytnmimlcnifflbaa", sum := "fad787a93bbc30a0715b0f468f5d7b1255e8d85e168a92475e94d49035b038f9", func := "minecontrol/minecontrollaw08.DoorCommands", spec := "doorCommands", apart := false, narrowed := true }
def DoorCommandsUptoSaid : Prop := doorCommandsUptoRow.holds Try.pinned (OpenSpec.upto doorCommandsSpec)

end Rows
end Go.Proofs.Ytnmimlcnifflbaa
