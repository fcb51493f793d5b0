/-
  No cell of these rows narrows 'for every input' (looked for: loops, veiled, ifaces, maps, wideKeys, modest, calm, conditions, laid).
  DERIVED. THE GIVEN ROWS OF THIS SEAT. 6 by the template 'for every input the law returns true; each argument reads behind the call as it read before'; 0 by the template 'total and deterministic' (their statements: YtecbhhmfeldepaaTotals.lean).
  GIVEN WITH THE SEED: the statements are not yours to turn. If you find one false, say at which input.
  Laid BY PROGRAM, IN A SANDBOX (cutbox-rows.mjs): the forced cells as the released guide's own fill.sh prints them over the translation a76497334621c7a0… (all of the seat's roots in one cut). By AI agents, Wed Nov 11 2026. No macro, syntax, notation, axiom, sorry.
-/
import Derived.Test.YtecbhhmfeldepaaChecked
import GoSem.Claim
import GoSem.ClaimJoined
import GoSem.ClaimMapViews
import Derived.JoinedTies
import Derived.KernelRfl
namespace Go.Proofs.Ytecbhhmfeldepaa
/- THE CELL 'sum', in the pinned program and in every row, IS THE sha256 OF THE DUMP (.gsa) THAT YtecbhhmfeldepaaProg.lean LOADS. Nothing in Lean hashes anything: it is a label: what it is worth is what the hold of that sum in a sandbox is worth. -/
noncomputable def Try.pinned : Pinned := { name := "ytecbhhmfeldepaa", sum := "a76497334621c7a00ad7980086b32801565d1eec5700dbf339c7092620e768a6", checked := Try.checked }
namespace Rows
def none {H : Type} : Left H := { results := [], args := [] }

/-- 'minecontrollaw18.FeederCloses': WHATEVER THE INPUT: true; the input reads as it did. -/
def feederClosesSpec : ChangeSpec := { name := "feederCloses", fn := fun _ => fun
  | [d1, d2] => { results := [.lit (.bool true)], args := [d1, d2] }
  | _ => none }
def feederClosesRow : OpenClaim := { program := "ytecbhhmfeldepaa", sum := "a76497334621c7a00ad7980086b32801565d1eec5700dbf339c7092620e768a6", func := "minecontrol/minecontrollaw18.FeederCloses", spec := "feederCloses", unfollowed := true, recurses := true, apart := false }
def FeederClosesSaid : Prop := feederClosesRow.holds Try.pinned (OpenSpec.ofChange feederClosesSpec)

/-- ITS FALSE NEIGHBOUR: 'it returns false'. Refute it at one input. -/
def feederClosesWrong : ChangeSpec := { name := "feederCloses", fn := fun _ => fun
  | [d1, d2] => { results := [.lit (.bool false)], args := [d1, d2] }
  | _ => none }
def FeederClosesWrongFalsely : Prop := feederClosesRow.holds Try.pinned (OpenSpec.ofChange feederClosesWrong)

/-- 'minecontrollaw18.FeederTwice': WHATEVER THE INPUT: true; the input reads as it did. -/
def feederTwiceSpec : ChangeSpec := { name := "feederTwice", fn := fun _ => fun
  | [d1, d2] => { results := [.lit (.bool true)], args := [d1, d2] }
  | _ => none }
def feederTwiceRow : OpenClaim := { program := "ytecbhhmfeldepaa", sum := "a76497334621c7a00ad7980086b32801565d1eec5700dbf339c7092620e768a6", func := "minecontrol/minecontrollaw18.FeederTwice", spec := "feederTwice", unfollowed := true, recurses := true, apart := false }
def FeederTwiceSaid : Prop := feederTwiceRow.holds Try.pinned (OpenSpec.ofChange feederTwiceSpec)

/-- ITS FALSE NEIGHBOUR: 'it returns false'. Refute it at one input. -/
def feederTwiceWrong : ChangeSpec := { name := "feederTwice", fn := fun _ => fun
  | [d1, d2] => { results := [.lit (.bool false)], args := [d1, d2] }
  | _ => none }
def FeederTwiceWrongFalsely : Prop := feederTwiceRow.holds Try.pinned (OpenSpec.ofChange feederTwiceWrong)

/-- 'minecontrollaw18.FeederChecks': WHATEVER THE INPUT: true; the input reads as it did. -/
def feederChecksSpec : ChangeSpec := { name := "feederChecks", fn := fun _ => fun
  | [d1, d2, d3, d4, d5] => { results := [.lit (.bool true)], args := [d1, d2, d3, d4, d5] }
  | _ => none }
def feederChecksRow : OpenClaim := { program := "ytecbhhmfeldepaa", sum := "a76497334621c7a00ad7980086b32801565d1eec5700dbf339c7092620e768a6", func := "minecontrol/minecontrollaw18.FeederChecks", spec := "feederChecks", unfollowed := true, recurses := true, apart := false }
def FeederChecksSaid : Prop := feederChecksRow.holds Try.pinned (OpenSpec.ofChange feederChecksSpec)

/-- ITS FALSE NEIGHBOUR: 'it returns false'. Refute it at one input. -/
def feederChecksWrong : ChangeSpec := { name := "feederChecks", fn := fun _ => fun
  | [d1, d2, d3, d4, d5] => { results := [.lit (.bool false)], args := [d1, d2, d3, d4, d5] }
  | _ => none }
def FeederChecksWrongFalsely : Prop := feederChecksRow.holds Try.pinned (OpenSpec.ofChange feederChecksWrong)

/-- 'minecontrollaw18.FeederActs': WHATEVER THE INPUT: true; the input reads as it did. -/
def feederActsSpec : ChangeSpec := { name := "feederActs", fn := fun _ => fun
  | [d1, d2, d3, d4, d5, d6] => { results := [.lit (.bool true)], args := [d1, d2, d3, d4, d5, d6] }
  | _ => none }
def feederActsRow : OpenClaim := { program := "ytecbhhmfeldepaa", sum := "a76497334621c7a00ad7980086b32801565d1eec5700dbf339c7092620e768a6", func := "minecontrol/minecontrollaw18.FeederActs", spec := "feederActs", unfollowed := true, recurses := true, apart := false }
def FeederActsSaid : Prop := feederActsRow.holds Try.pinned (OpenSpec.ofChange feederActsSpec)

/-- ITS FALSE NEIGHBOUR: 'it returns false'. Refute it at one input. -/
def feederActsWrong : ChangeSpec := { name := "feederActs", fn := fun _ => fun
  | [d1, d2, d3, d4, d5, d6] => { results := [.lit (.bool false)], args := [d1, d2, d3, d4, d5, d6] }
  | _ => none }
def FeederActsWrongFalsely : Prop := feederActsRow.holds Try.pinned (OpenSpec.ofChange feederActsWrong)

/-- 'minecontrollaw18.FeederChain': WHATEVER THE INPUT: true; the input reads as it did. -/
def feederChainSpec : ChangeSpec := { name := "feederChain", fn := fun _ => fun
  | [d1, d2] => { results := [.lit (.bool true)], args := [d1, d2] }
  | _ => none }
def feederChainRow : OpenClaim := { program := "ytecbhhmfeldepaa", sum := "a76497334621c7a00ad7980086b32801565d1eec5700dbf339c7092620e768a6", func := "minecontrol/minecontrollaw18.FeederChain", spec := "feederChain", unfollowed := true, recurses := true, apart := false }
def FeederChainSaid : Prop := feederChainRow.holds Try.pinned (OpenSpec.ofChange feederChainSpec)

/-- ITS FALSE NEIGHBOUR: 'it returns false'. Refute it at one input. -/
def feederChainWrong : ChangeSpec := { name := "feederChain", fn := fun _ => fun
  | [d1, d2] => { results := [.lit (.bool false)], args := [d1, d2] }
  | _ => none }
def FeederChainWrongFalsely : Prop := feederChainRow.holds Try.pinned (OpenSpec.ofChange feederChainWrong)

/-- 'minecontrollaw18.FeederStories': WHATEVER THE INPUT: true; the input reads as it did. -/
def feederStoriesSpec : ChangeSpec := { name := "feederStories", fn := fun _ => fun
  | [d] => { results := [.lit (.bool true)], args := [d] }
  | _ => none }
def feederStoriesRow : OpenClaim := { program := "ytecbhhmfeldepaa", sum := "a76497334621c7a00ad7980086b32801565d1eec5700dbf339c7092620e768a6", func := "minecontrol/minecontrollaw18.FeederStories", spec := "feederStories", unfollowed := true, recurses := true, apart := false }
def FeederStoriesSaid : Prop := feederStoriesRow.holds Try.pinned (OpenSpec.ofChange feederStoriesSpec)

/-- ITS FALSE NEIGHBOUR: 'it returns false'. Refute it at one input. -/
def feederStoriesWrong : ChangeSpec := { name := "feederStories", fn := fun _ => fun
  | [d] => { results := [.lit (.bool false)], args := [d] }
  | _ => none }
def FeederStoriesWrongFalsely : Prop := feederStoriesRow.holds Try.pinned (OpenSpec.ofChange feederStoriesWrong)

/- THE SECOND FORM. 'bulk': how many values and letters a reading holds, each counted each time it is reached (what is shared counts as often as it is met; a slice's spare places count too). A statement '..UptoSaid' is the law's where the arguments, and the package variables that the reading takes, are together of bulk at most 1048576: NARROWER than '..Said'. Prove '..Said' where nothing that the law and all that it calls make is longer than what came in: it says more and counts as full. Else prove '..UptoSaid'. A law counts once. -/
mutual
def uptoBulk {H : Type} : DataW H → Nat
  | .lit (.string bytes) => bytes.length + 1
  | .lit _ => 1
  | .nil => 1
  | .ptr d => uptoBulk d + 1
  | .slice elems spare => uptoBulkAll elems + uptoBulkAll spare + 1
  | .agg parts => uptoBulkAll parts + 1
  | .iface _ d => uptoBulk d + 1
  | .map entries => uptoBulkEntries entries + 1
  | .held _ => 1
def uptoBulkAll {H : Type} : List (DataW H) → Nat
  | [] => 0
  | d :: r => uptoBulk d + uptoBulkAll r
def uptoBulkEntries {H : Type} : List (Lit × DataW H) → Nat
  | [] => 0
  | x :: r => uptoBulkEntry x + uptoBulkEntries r
def uptoBulkEntry {H : Type} : Lit × DataW H → Nat
  | (.string bytes, d) => bytes.length + uptoBulk d + 1
  | (_, d) => uptoBulk d + 1
 end
def uptoSmall : (H : Type) → List (DataW H) → Bool := fun _ ds => decide (uptoBulkAll ds ≤ 1048576)
def OpenSpec.upto (s : _root_.Go.ChangeSpec) : _root_.Go.OpenSpec := { _root_.Go.OpenSpec.ofChange s with cond := some uptoSmall }

/-- 'minecontrollaw18.FeederCloses', WHERE WHAT IT READS IS OF BULK AT MOST 1048576: true; the input reads as it did. -/
def feederClosesUptoRow : OpenClaim := { program := "ytecbhhmfeldepaa", sum := "a76497334621c7a00ad7980086b32801565d1eec5700dbf339c7092620e768a6", func := "minecontrol/minecontrollaw18.FeederCloses", spec := "feederCloses", unfollowed := true, recurses := true, apart := false, narrowed := true }
def FeederClosesUptoSaid : Prop := feederClosesUptoRow.holds Try.pinned (OpenSpec.upto feederClosesSpec)

/-- 'minecontrollaw18.FeederTwice', WHERE WHAT IT READS IS OF BULK AT MOST 1048576: true; the input reads as it did. -/
def feederTwiceUptoRow : OpenClaim := { program := "ytecbhhmfeldepaa", sum := "a76497334621c7a00ad7980086b32801565d1eec5700dbf339c7092620e768a6", func := "minecontrol/minecontrollaw18.FeederTwice", spec := "feederTwice", unfollowed := true, recurses := true, apart := false, narrowed := true }
def FeederTwiceUptoSaid : Prop := feederTwiceUptoRow.holds Try.pinned (OpenSpec.upto feederTwiceSpec)

/-- 'minecontrollaw18.FeederChecks', WHERE WHAT IT READS IS OF BULK AT MOST 1048576: true; the input reads as it did. -/
def feederChecksUptoRow : OpenClaim := { program := "ytecbhhmfeldepaa", sum := "a76497334621c7a00ad7980086b32801565d1eec5700dbf339c7092620e768a6", func := "minecontrol/minecontrollaw18.FeederChecks", spec := "feederChecks", unfollowed := true, recurses := true, apart := false, narrowed := true }
def FeederChecksUptoSaid : Prop := feederChecksUptoRow.holds Try.pinned (OpenSpec.upto feederChecksSpec)

/-- 'minecontrollaw18.FeederActs', WHERE WHAT IT READS IS OF BULK AT MOST 1048576: true; the input reads as it did. -/
def feederActsUptoRow : OpenClaim := { program := "ytecbhhmfeldepaa", sum := "a76497334621c7a00ad7980086b32801565d1eec5700dbf339c7092620e768a6", func := "minecontrol/minecontrollaw18.FeederActs", spec := "feederActs", unfollowed := true, recurses := true, apart := false, narrowed := true }
def FeederActsUptoSaid : Prop := feederActsUptoRow.holds Try.pinned (OpenSpec.upto feederActsSpec)

/-- 'minecontrollaw18.FeederChain', WHERE WHAT IT READS IS OF BULK AT MOST 1048576: true; the input reads as it did. -/
def feederChainUptoRow : OpenClaim := { program := "ytecbhhmfeldepaa", sum := "a76497334621c7a00ad7980086b32801565d1eec5700dbf339c7092620e768a6", func := "minecontrol/minecontrollaw18.FeederChain", spec := "feederChain", unfollowed := true, recurses := true, apart := false, narrowed := true }
def FeederChainUptoSaid : Prop := feederChainUptoRow.holds Try.pinned (OpenSpec.upto feederChainSpec)

/-- 'minecontrollaw18.FeederStories', WHERE WHAT IT READS IS OF BULK AT MOST 1048576: true; the input reads as it did. -/
def feederStoriesUptoRow : OpenClaim := { program := "ytecbhhmfeldepaa", sum := "a76497334621c7a00ad7980086b32801565d1eec5700dbf339c7092620e768a6", func := "minecontrol/minecontrollaw18.FeederStories", spec := "feederStories", unfollowed := true, recurses := true, apart := false, narrowed := true }
def FeederStoriesUptoSaid : Prop := feederStoriesUptoRow.holds Try.pinned (OpenSpec.upto feederStoriesSpec)

end Rows
end Go.Proofs.Ytecbhhmfeldepaa
