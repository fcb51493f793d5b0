/-
  No cell of these rows narrows 'for every input' (looked for: loops, veiled, ifaces, maps, wideKeys, modest, calm, conditions, laid).
  DERIVED. THE GIVEN ROWS OF THIS SEAT. 4 by the template 'for every input the law returns true; each argument reads behind the call as it read before'; 0 by the template 'total and deterministic' (their statements: YtmomjhbinkmefaaTotals.lean).
  GIVEN WITH THE SEED: the statements are not yours to turn. If you find one false, say at which input.
  Laid BY PROGRAM, IN A SANDBOX (cutbox-rows.mjs): the forced cells as the released guide's own fill.sh prints them over the translation 695f13ea00281067… (all of the seat's roots in one cut). By AI agents, Wed Nov 11 2026. No macro, syntax, notation, axiom, sorry.
-/
import Derived.Test.YtmomjhbinkmefaaChecked
import GoSem.Claim
import GoSem.ClaimJoined
import GoSem.ClaimMapViews
import Derived.JoinedTies
import Derived.KernelRfl
namespace Go.Proofs.Ytmomjhbinkmefaa
/- THE CELL 'sum', in the pinned program and in every row, IS THE sha256 OF THE DUMP (.gsa) THAT YtmomjhbinkmefaaProg.lean LOADS. Nothing in Lean hashes anything: it is a label: what it is worth is what the hold of that sum in a sandbox is worth. -/
noncomputable def Try.pinned : Pinned := { name := "ytmomjhbinkmefaa", sum := "695f13ea00281067ce998ea8003115367d6c7a0dca4e0dd67087d2375c60e1d2", checked := Try.checked }
namespace Rows
def none {H : Type} : Left H := { results := [], args := [] }

/-- 'minecontrollaw39.BeltsAll': WHATEVER THE INPUT: true; the input reads as it did. -/
def beltsAllSpec : ChangeSpec := { name := "beltsAll", fn := fun _ => fun
  | [d] => { results := [.lit (.bool true)], args := [d] }
  | _ => none }
def beltsAllRow : OpenClaim := { program := "ytmomjhbinkmefaa", sum := "695f13ea00281067ce998ea8003115367d6c7a0dca4e0dd67087d2375c60e1d2", func := "minecontrol/minecontrollaw39.BeltsAll", spec := "beltsAll", unfollowed := true, recurses := true, apart := false }
def BeltsAllSaid : Prop := beltsAllRow.holds Try.pinned (OpenSpec.ofChange beltsAllSpec)

/-- ITS FALSE NEIGHBOUR: 'it returns false'. Refute it at one input. -/
def beltsAllWrong : ChangeSpec := { name := "beltsAll", fn := fun _ => fun
  | [d] => { results := [.lit (.bool false)], args := [d] }
  | _ => none }
def BeltsAllWrongFalsely : Prop := beltsAllRow.holds Try.pinned (OpenSpec.ofChange beltsAllWrong)

/-- 'minecontrollaw39.BeltsRaw': WHATEVER THE INPUT: true; the input reads as it did. -/
def beltsRawSpec : ChangeSpec := { name := "beltsRaw", fn := fun _ => fun
  | [d1, d2, d3] => { results := [.lit (.bool true)], args := [d1, d2, d3] }
  | _ => none }
def beltsRawRow : OpenClaim := { program := "ytmomjhbinkmefaa", sum := "695f13ea00281067ce998ea8003115367d6c7a0dca4e0dd67087d2375c60e1d2", func := "minecontrol/minecontrollaw39.BeltsRaw", spec := "beltsRaw", unfollowed := true, recurses := true, apart := false }
def BeltsRawSaid : Prop := beltsRawRow.holds Try.pinned (OpenSpec.ofChange beltsRawSpec)

/-- ITS FALSE NEIGHBOUR: 'it returns false'. Refute it at one input. -/
def beltsRawWrong : ChangeSpec := { name := "beltsRaw", fn := fun _ => fun
  | [d1, d2, d3] => { results := [.lit (.bool false)], args := [d1, d2, d3] }
  | _ => none }
def BeltsRawWrongFalsely : Prop := beltsRawRow.holds Try.pinned (OpenSpec.ofChange beltsRawWrong)

/-- 'minecontrollaw39.BeltsMade': WHATEVER THE INPUT: true; the input reads as it did. -/
def beltsMadeSpec : ChangeSpec := { name := "beltsMade", fn := fun _ => fun
  | [d] => { results := [.lit (.bool true)], args := [d] }
  | _ => none }
def beltsMadeRow : OpenClaim := { program := "ytmomjhbinkmefaa", sum := "695f13ea00281067ce998ea8003115367d6c7a0dca4e0dd67087d2375c60e1d2", func := "minecontrol/minecontrollaw39.BeltsMade", spec := "beltsMade", unfollowed := true, recurses := true, apart := false }
def BeltsMadeSaid : Prop := beltsMadeRow.holds Try.pinned (OpenSpec.ofChange beltsMadeSpec)

/-- ITS FALSE NEIGHBOUR: 'it returns false'. Refute it at one input. -/
def beltsMadeWrong : ChangeSpec := { name := "beltsMade", fn := fun _ => fun
  | [d] => { results := [.lit (.bool false)], args := [d] }
  | _ => none }
def BeltsMadeWrongFalsely : Prop := beltsMadeRow.holds Try.pinned (OpenSpec.ofChange beltsMadeWrong)

/-- 'minecontrollaw39.BeltsSafe': WHATEVER THE INPUT: true; the input reads as it did. -/
def beltsSafeSpec : ChangeSpec := { name := "beltsSafe", fn := fun _ => fun
  | [d] => { results := [.lit (.bool true)], args := [d] }
  | _ => none }
def beltsSafeRow : OpenClaim := { program := "ytmomjhbinkmefaa", sum := "695f13ea00281067ce998ea8003115367d6c7a0dca4e0dd67087d2375c60e1d2", func := "minecontrol/minecontrollaw39.BeltsSafe", spec := "beltsSafe", unfollowed := true, recurses := true, apart := false }
def BeltsSafeSaid : Prop := beltsSafeRow.holds Try.pinned (OpenSpec.ofChange beltsSafeSpec)

/-- ITS FALSE NEIGHBOUR: 'it returns false'. Refute it at one input. -/
def beltsSafeWrong : ChangeSpec := { name := "beltsSafe", fn := fun _ => fun
  | [d] => { results := [.lit (.bool false)], args := [d] }
  | _ => none }
def BeltsSafeWrongFalsely : Prop := beltsSafeRow.holds Try.pinned (OpenSpec.ofChange beltsSafeWrong)

/- THE SECOND FORM. 'bulk': how many values and letters a reading holds, each counted each time it is reached (what is shared counts as often as it is met; a slice's spare places count too). A statement '..UptoSaid' is the law's where the arguments, and the package variables that the reading takes, are together of bulk at most 1048576: NARROWER than '..Said'. Prove '..Said' where nothing that the law and all that it calls make is longer than what came in: it says more and counts as full. Else prove '..UptoSaid'. A law counts once. -/
mutual
def uptoBulk {H : Type} : DataW H → Nat
  | .lit (.string bytes) => bytes.length + 1
  | .lit _ => 1
  | .nil => 1
  | .ptr d => uptoBulk d + 1
  | .slice elems spare => uptoBulkAll elems + uptoBulkAll spare + 1
  | .agg parts => uptoBulkAll parts + 1
  | .iface _ d => uptoBulk d + 1
  | .map entries => uptoBulkEntries entries + 1
  | .held _ => 1
def uptoBulkAll {H : Type} : List (DataW H) → Nat
  | [] => 0
  | d :: r => uptoBulk d + uptoBulkAll r
def uptoBulkEntries {H : Type} : List (Lit × DataW H) → Nat
  | [] => 0
  | x :: r => uptoBulkEntry x + uptoBulkEntries r
def uptoBulkEntry {H : Type} : Lit × DataW H → Nat
  | (.string bytes, d) => bytes.length + uptoBulk d + 1
  | (_, d) => uptoBulk d + 1
 end
def uptoSmall : (H : Type) → List (DataW H) → Bool := fun _ ds => decide (uptoBulkAll ds ≤ 1048576)
def OpenSpec.upto (s : _root_.Go.ChangeSpec) : _root_.Go.OpenSpec := { _root_.Go.OpenSpec.ofChange s with cond := some uptoSmall }

/-- 'minecontrollaw39.BeltsAll', WHERE WHAT IT READS IS OF BULK AT MOST 1048576: true; the input reads as it did. -/
def beltsAllUptoRow : OpenClaim := { program := "ytmomjhbinkmefaa", sum := "695f13ea00281067ce998ea8003115367d6c7a0dca4e0dd67087d2375c60e1d2", func := "minecontrol/minecontrollaw39.BeltsAll", spec := "beltsAll", unfollowed := true, recurses := true, apart := false, narrowed := true }
def BeltsAllUptoSaid : Prop := beltsAllUptoRow.holds Try.pinned (OpenSpec.upto beltsAllSpec)

/-- 'minecontrollaw39.BeltsRaw', WHERE WHAT IT READS IS OF BULK AT MOST 1048576: true; the input reads as it did. -/
def beltsRawUptoRow : OpenClaim := { program := "ytmomjhbinkmefaa", sum := "695f13ea00281067ce998ea8003115367d6c7a0dca4e0dd67087d2375c60e1d2", func := "minecontrol/minecontrollaw39.BeltsRaw", spec := "beltsRaw", unfollowed := true, recurses := true, apart := false, narrowed := true }
def BeltsRawUptoSaid : Prop := beltsRawUptoRow.holds Try.pinned (OpenSpec.upto beltsRawSpec)

/-- 'minecontrollaw39.BeltsMade', WHERE WHAT IT READS IS OF BULK AT MOST 1048576: true; the input reads as it did. -/
def beltsMadeUptoRow : OpenClaim := { program := "ytmomjhbinkmefaa", sum := "695f13ea00281067ce998ea8003115367d6c7a0dca4e0dd67087d2375c60e1d2", func := "minecontrol/minecontrollaw39.BeltsMade", spec := "beltsMade", unfollowed := true, recurses := true, apart := false, narrowed := true }
def BeltsMadeUptoSaid : Prop := beltsMadeUptoRow.holds Try.pinned (OpenSpec.upto beltsMadeSpec)

/-- 'minecontrollaw39.BeltsSafe', WHERE WHAT IT READS IS OF BULK AT MOST 1048576: true; the input reads as it did. -/
def beltsSafeUptoRow : OpenClaim := { program := "ytmomjhbinkmefaa", sum := "695f13ea00281067ce998ea8003115367d6c7a0dca4e0dd67087d2375c60e1d2", func := "minecontrol/minecontrollaw39.BeltsSafe", spec := "beltsSafe", unfollowed := true, recurses := true, apart := false, narrowed := true }
def BeltsSafeUptoSaid : Prop := beltsSafeUptoRow.holds Try.pinned (OpenSpec.upto beltsSafeSpec)

end Rows
end Go.Proofs.Ytmomjhbinkmefaa
