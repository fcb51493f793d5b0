/-
  No cell of these rows narrows 'for every input' (looked for: loops, veiled, ifaces, maps, wideKeys, modest, calm, conditions, laid).
  DERIVED. THE GIVEN ROWS OF THIS SEAT. 5 by the template 'for every input the law returns true; each argument reads behind the call as it read before'; 0 by the template 'total and deterministic' (their statements: YtfljhldgncdifaaGreatTotals.lean).
  GIVEN WITH THE SEED: the statements are not yours to turn. If you find one false, say at which input.
  Laid BY PROGRAM, IN A SANDBOX (cutbox-rows.mjs): the forced cells as the released guide's own fill.sh prints them over the translation 3326e9380da6f426… (all of the seat's roots in one cut). By AI agents, Wed Nov 11 2026. No macro, syntax, notation, axiom, sorry.
-/
import Derived.Test.YtfljhldgncdifaaGreatChecked
import GoSem.Claim
import GoSem.ClaimJoined
import GoSem.ClaimMapViews
import Derived.JoinedTies
import Derived.KernelRfl
namespace Go.Proofs.YtfljhldgncdifaaGreat
/- THE CELL 'sum', in the pinned program and in every row, IS THE sha256 OF THE DUMP (.gsa) THAT YtfljhldgncdifaaGreatProg.lean LOADS. Nothing in Lean hashes anything: it is a label: what it is worth is what the hold of that sum in a sandbox is worth. -/
noncomputable def Tryz.pinned : Pinned := { name := "ytfljhldgncdifaagreat", sum := "3326e9380da6f426ffd6f12bf32f503a14f32252931b473a7d7ee208acccc0f4", checked := Tryz.checked }
namespace Rows
def none {H : Type} : Left H := { results := [], args := [] }

/-- 'minecontroltop.TopSmokeWays': WHATEVER THE INPUT: true; the input reads as it did. -/
def topSmokeWaysSpec : ChangeSpec := { name := "topSmokeWays", fn := fun _ => fun
  | [d] => { results := [.lit (.bool true)], args := [d] }
  | _ => none }
def topSmokeWaysRow : OpenClaim := { program := "ytfljhldgncdifaagreat", sum := "3326e9380da6f426ffd6f12bf32f503a14f32252931b473a7d7ee208acccc0f4", func := "minecontrol/minecontroltop.TopSmokeWays", spec := "topSmokeWays", inPlace := ["slices.overlaps[minecontrol/api.Alarm]"], unfollowed := true, recurses := true, apart := false }
def TopSmokeWaysSaid : Prop := topSmokeWaysRow.holds Tryz.pinned (OpenSpec.ofChange topSmokeWaysSpec)

/-- ITS FALSE NEIGHBOUR: 'it returns false'. Refute it at one input. -/
def topSmokeWaysWrong : ChangeSpec := { name := "topSmokeWays", fn := fun _ => fun
  | [d] => { results := [.lit (.bool false)], args := [d] }
  | _ => none }
def TopSmokeWaysWrongFalsely : Prop := topSmokeWaysRow.holds Tryz.pinned (OpenSpec.ofChange topSmokeWaysWrong)

/-- 'minecontroltop.TopWhole': WHATEVER THE INPUT: true; the input reads as it did. -/
def topWholeSpec : ChangeSpec := { name := "topWhole", fn := fun _ => fun
  | [d1, d2] => { results := [.lit (.bool true)], args := [d1, d2] }
  | _ => none }
def topWholeRow : OpenClaim := { program := "ytfljhldgncdifaagreat", sum := "3326e9380da6f426ffd6f12bf32f503a14f32252931b473a7d7ee208acccc0f4", func := "minecontrol/minecontroltop.TopWhole", spec := "topWhole", inPlace := ["slices.overlaps[minecontrol/api.Alarm]"], unfollowed := true, recurses := true, apart := false }
def TopWholeSaid : Prop := topWholeRow.holds Tryz.pinned (OpenSpec.ofChange topWholeSpec)

/-- ITS FALSE NEIGHBOUR: 'it returns false'. Refute it at one input. -/
def topWholeWrong : ChangeSpec := { name := "topWhole", fn := fun _ => fun
  | [d1, d2] => { results := [.lit (.bool false)], args := [d1, d2] }
  | _ => none }
def TopWholeWrongFalsely : Prop := topWholeRow.holds Tryz.pinned (OpenSpec.ofChange topWholeWrong)

/-- 'minecontroltop.TopCounted': WHATEVER THE INPUT: true; the input reads as it did. -/
def topCountedSpec : ChangeSpec := { name := "topCounted", fn := fun _ => fun
  | [d] => { results := [.lit (.bool true)], args := [d] }
  | _ => none }
def topCountedRow : OpenClaim := { program := "ytfljhldgncdifaagreat", sum := "3326e9380da6f426ffd6f12bf32f503a14f32252931b473a7d7ee208acccc0f4", func := "minecontrol/minecontroltop.TopCounted", spec := "topCounted", inPlace := ["slices.overlaps[minecontrol/api.Alarm]"], unfollowed := true, recurses := true, apart := false }
def TopCountedSaid : Prop := topCountedRow.holds Tryz.pinned (OpenSpec.ofChange topCountedSpec)

/-- ITS FALSE NEIGHBOUR: 'it returns false'. Refute it at one input. -/
def topCountedWrong : ChangeSpec := { name := "topCounted", fn := fun _ => fun
  | [d] => { results := [.lit (.bool false)], args := [d] }
  | _ => none }
def TopCountedWrongFalsely : Prop := topCountedRow.holds Tryz.pinned (OpenSpec.ofChange topCountedWrong)

/-- 'minecontroltop.TopWays': WHATEVER THE INPUT: true; the input reads as it did. -/
def topWaysSpec : ChangeSpec := { name := "topWays", fn := fun _ => fun
  | [d] => { results := [.lit (.bool true)], args := [d] }
  | _ => none }
def topWaysRow : OpenClaim := { program := "ytfljhldgncdifaagreat", sum := "3326e9380da6f426ffd6f12bf32f503a14f32252931b473a7d7ee208acccc0f4", func := "minecontrol/minecontroltop.TopWays", spec := "topWays", inPlace := ["slices.overlaps[minecontrol/api.Alarm]"], unfollowed := true, recurses := true, apart := false }
def TopWaysSaid : Prop := topWaysRow.holds Tryz.pinned (OpenSpec.ofChange topWaysSpec)

/-- ITS FALSE NEIGHBOUR: 'it returns false'. Refute it at one input. -/
def topWaysWrong : ChangeSpec := { name := "topWays", fn := fun _ => fun
  | [d] => { results := [.lit (.bool false)], args := [d] }
  | _ => none }
def TopWaysWrongFalsely : Prop := topWaysRow.holds Tryz.pinned (OpenSpec.ofChange topWaysWrong)

/-- 'minecontroltop.TopTracked': WHATEVER THE INPUT: true; the input reads as it did. -/
def topTrackedSpec : ChangeSpec := { name := "topTracked", fn := fun _ => fun
  | [d1, d2] => { results := [.lit (.bool true)], args := [d1, d2] }
  | _ => none }
def topTrackedRow : OpenClaim := { program := "ytfljhldgncdifaagreat", sum := "3326e9380da6f426ffd6f12bf32f503a14f32252931b473a7d7ee208acccc0f4", func := "minecontrol/minecontroltop.TopTracked", spec := "topTracked", inPlace := ["slices.overlaps[minecontrol/api.Alarm]"], unfollowed := true, recurses := true, apart := false }
def TopTrackedSaid : Prop := topTrackedRow.holds Tryz.pinned (OpenSpec.ofChange topTrackedSpec)

/-- ITS FALSE NEIGHBOUR: 'it returns false'. Refute it at one input. -/
def topTrackedWrong : ChangeSpec := { name := "topTracked", fn := fun _ => fun
  | [d1, d2] => { results := [.lit (.bool false)], args := [d1, d2] }
  | _ => none }
def TopTrackedWrongFalsely : Prop := topTrackedRow.holds Tryz.pinned (OpenSpec.ofChange topTrackedWrong)

/- THE SECOND FORM. 'bulk': how many values and letters a reading holds, each counted each time it is reached (what is shared counts as often as it is met; a slice's spare places count too). A statement '..UptoSaid' is the law's where the arguments, and the package variables that the reading takes, are together of bulk at most 1048576: NARROWER than '..Said'. Prove '..Said' where nothing that the law and all that it calls make is longer than what came in: it says more and counts as full. Else prove '..UptoSaid'. A law counts once. -/
mutual
def uptoBulk {H : Type} : DataW H → Nat
  | .lit (.string bytes) => bytes.length + 1
  | .lit _ => 1
  | .nil => 1
  | .ptr d => uptoBulk d + 1
  | .slice elems spare => uptoBulkAll elems + uptoBulkAll spare + 1
  | .agg parts => uptoBulkAll parts + 1
  | .iface _ d => uptoBulk d + 1
  | .map entries => uptoBulkEntries entries + 1
  | .held _ => 1
def uptoBulkAll {H : Type} : List (DataW H) → Nat
  | [] => 0
  | d :: r => uptoBulk d + uptoBulkAll r
def uptoBulkEntries {H : Type} : List (Lit × DataW H) → Nat
  | [] => 0
  | x :: r => uptoBulkEntry x + uptoBulkEntries r
def uptoBulkEntry {H : Type} : Lit × DataW H → Nat
  | (.string bytes, d) => bytes.length + uptoBulk d + 1
  | (_, d) => uptoBulk d + 1
 end
def uptoSmall : (H : Type) → List (DataW H) → Bool := fun _ ds => decide (uptoBulkAll ds ≤ 1048576)
def OpenSpec.upto (s : _root_.Go.ChangeSpec) : _root_.Go.OpenSpec := { _root_.Go.OpenSpec.ofChange s with cond := some uptoSmall }

/-- 'minecontroltop.TopSmokeWays', WHERE WHAT IT READS IS OF BULK AT MOST 1048576: true; the input reads as it did. -/
def topSmokeWaysUptoRow : OpenClaim := { program := "ytfljhldgncdifaagreat", sum := "3326e9380da6f426ffd6f12bf32f503a14f32252931b473a7d7ee208acccc0f4", func := "minecontrol/minecontroltop.TopSmokeWays", spec := "topSmokeWays", inPlace := ["slices.overlaps[minecontrol/api.Alarm]"], unfollowed := true, recurses := true, apart := false, narrowed := true }
def TopSmokeWaysUptoSaid : Prop := topSmokeWaysUptoRow.holds Tryz.pinned (OpenSpec.upto topSmokeWaysSpec)

/-- 'minecontroltop.TopWhole', WHERE WHAT IT READS IS OF BULK AT MOST 1048576: true; the input reads as it did. -/
def topWholeUptoRow : OpenClaim := { program := "ytfljhldgncdifaagreat", sum := "3326e9380da6f426ffd6f12bf32f503a14f32252931b473a7d7ee208acccc0f4", func := "minecontrol/minecontroltop.TopWhole", spec := "topWhole", inPlace := ["slices.overlaps[minecontrol/api.Alarm]"], unfollowed := true, recurses := true, apart := false, narrowed := true }
def TopWholeUptoSaid : Prop := topWholeUptoRow.holds Tryz.pinned (OpenSpec.upto topWholeSpec)

/-- 'minecontroltop.TopCounted', WHERE WHAT IT READS IS OF BULK AT MOST 1048576: true; the input reads as it did. -/
def topCountedUptoRow : OpenClaim := { program := "ytfljhldgncdifaagreat", sum := "3326e9380da6f426ffd6f12bf32f503a14f32252931b473a7d7ee208acccc0f4", func := "minecontrol/minecontroltop.TopCounted", spec := "topCounted", inPlace := ["slices.overlaps[minecontrol/api.Alarm]"], unfollowed := true, recurses := true, apart := false, narrowed := true }
def TopCountedUptoSaid : Prop := topCountedUptoRow.holds Tryz.pinned (OpenSpec.upto topCountedSpec)

/-- 'minecontroltop.TopWays', WHERE WHAT IT READS IS OF BULK AT MOST 1048576: true; the input reads as it did. -/
def topWaysUptoRow : OpenClaim := { program := "ytfljhldgncdifaagreat", sum := "3326e9380da6f426ffd6f12bf32f503a14f32252931b473a7d7ee208acccc0f4", func := "minecontrol/minecontroltop.TopWays", spec := "topWays", inPlace := ["slices.overlaps[minecontrol/api.Alarm]"], unfollowed := true, recurses := true, apart := false, narrowed := true }
def TopWaysUptoSaid : Prop := topWaysUptoRow.holds Tryz.pinned (OpenSpec.upto topWaysSpec)

/-- 'minecontroltop.TopTracked', WHERE WHAT IT READS IS OF BULK AT MOST 1048576: true; the input reads as it did. -/
def topTrackedUptoRow : OpenClaim := { program := "ytfljhldgncdifaagreat", sum := "3326e9380da6f426ffd6f12bf32f503a14f32252931b473a7d7ee208acccc0f4", func := "minecontrol/minecontroltop.TopTracked", spec := "topTracked", inPlace := ["slices.overlaps[minecontrol/api.Alarm]"], unfollowed := true, recurses := true, apart := false, narrowed := true }
def TopTrackedUptoSaid : Prop := topTrackedUptoRow.holds Tryz.pinned (OpenSpec.upto topTrackedSpec)

end Rows
end Go.Proofs.YtfljhldgncdifaaGreat
