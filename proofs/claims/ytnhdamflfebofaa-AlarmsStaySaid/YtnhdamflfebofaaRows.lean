/-
  No cell of these rows narrows 'for every input' (looked for: loops, veiled, ifaces, maps, wideKeys, modest, calm, conditions, laid).
  DERIVED. THE GIVEN ROWS OF THIS SEAT. 5 by the template 'for every input the law returns true; each argument reads behind the call as it read before'; 0 by the template 'total and deterministic' (their statements: YtnhdamflfebofaaTotals.lean).
  GIVEN WITH THE SEED: the statements are not yours to turn. If you find one false, say at which input.
  Laid BY PROGRAM, IN A SANDBOX (cutbox-rows.mjs): the forced cells as the released guide's own fill.sh prints them over the translation fb04b67bdfd6a589… (all of the seat's roots in one cut). By AI agents, Wed Nov 11 2026. No macro, syntax, notation, axiom, sorry.
-/
import Derived.Test.YtnhdamflfebofaaChecked
import GoSem.Claim
import GoSem.ClaimJoined
import GoSem.ClaimMapViews
import Derived.JoinedTies
import Derived.KernelRfl
namespace Go.Proofs.Ytnhdamflfebofaa
/- THE CELL 'sum', in the pinned program and in every row, IS THE sha256 OF THE DUMP (.gsa) THAT YtnhdamflfebofaaProg.lean LOADS. Nothing in Lean hashes anything: it is a label: what it is worth is what the hold of that sum in a sandbox is worth. -/
noncomputable def Try.pinned : Pinned := { name := "ytnhdamflfebofaa", sum := "fb04b67bdfd6a589681eb6129235d505359b6860afe8cf5848a682f2c5d0838e", checked := Try.checked }
namespace Rows
def none {H : Type} : Left H := { results := [], args := [] }

/-- 'minecontrollaw41.AlarmsShown': WHATEVER THE INPUT: true; the input reads as it did. -/
def alarmsShownSpec : ChangeSpec := { name := "alarmsShown", fn := fun _ => fun
  | [d] => { results := [.lit (.bool true)], args := [d] }
  | _ => none }
def alarmsShownRow : OpenClaim := { program := "ytnhdamflfebofaa", sum := "fb04b67bdfd6a589681eb6129235d505359b6860afe8cf5848a682f2c5d0838e", func := "minecontrol/minecontrollaw41.AlarmsShown", spec := "alarmsShown", inPlace := ["slices.overlaps[minecontrol/api.Alarm]"], unfollowed := true, recurses := true, apart := false }
def AlarmsShownSaid : Prop := alarmsShownRow.holds Try.pinned (OpenSpec.ofChange alarmsShownSpec)

/-- ITS FALSE NEIGHBOUR: 'it returns false'. Refute it at one input. -/
def alarmsShownWrong : ChangeSpec := { name := "alarmsShown", fn := fun _ => fun
  | [d] => { results := [.lit (.bool false)], args := [d] }
  | _ => none }
def AlarmsShownWrongFalsely : Prop := alarmsShownRow.holds Try.pinned (OpenSpec.ofChange alarmsShownWrong)

/-- 'minecontrollaw41.AlarmsOrder': WHATEVER THE INPUT: true; the input reads as it did. -/
def alarmsOrderSpec : ChangeSpec := { name := "alarmsOrder", fn := fun _ => fun
  | [d] => { results := [.lit (.bool true)], args := [d] }
  | _ => none }
def alarmsOrderRow : OpenClaim := { program := "ytnhdamflfebofaa", sum := "fb04b67bdfd6a589681eb6129235d505359b6860afe8cf5848a682f2c5d0838e", func := "minecontrol/minecontrollaw41.AlarmsOrder", spec := "alarmsOrder", inPlace := ["slices.overlaps[minecontrol/api.Alarm]"], unfollowed := true, recurses := true, apart := false }
def AlarmsOrderSaid : Prop := alarmsOrderRow.holds Try.pinned (OpenSpec.ofChange alarmsOrderSpec)

/-- ITS FALSE NEIGHBOUR: 'it returns false'. Refute it at one input. -/
def alarmsOrderWrong : ChangeSpec := { name := "alarmsOrder", fn := fun _ => fun
  | [d] => { results := [.lit (.bool false)], args := [d] }
  | _ => none }
def AlarmsOrderWrongFalsely : Prop := alarmsOrderRow.holds Try.pinned (OpenSpec.ofChange alarmsOrderWrong)

/-- 'minecontrollaw41.AlarmsRaw': WHATEVER THE INPUT: true; the input reads as it did. -/
def alarmsRawSpec : ChangeSpec := { name := "alarmsRaw", fn := fun _ => fun
  | [d1, d2] => { results := [.lit (.bool true)], args := [d1, d2] }
  | _ => none }
def alarmsRawRow : OpenClaim := { program := "ytnhdamflfebofaa", sum := "fb04b67bdfd6a589681eb6129235d505359b6860afe8cf5848a682f2c5d0838e", func := "minecontrol/minecontrollaw41.AlarmsRaw", spec := "alarmsRaw", inPlace := ["slices.overlaps[minecontrol/api.Alarm]"], unfollowed := true, recurses := true, apart := false }
def AlarmsRawSaid : Prop := alarmsRawRow.holds Try.pinned (OpenSpec.ofChange alarmsRawSpec)

/-- ITS FALSE NEIGHBOUR: 'it returns false'. Refute it at one input. -/
def alarmsRawWrong : ChangeSpec := { name := "alarmsRaw", fn := fun _ => fun
  | [d1, d2] => { results := [.lit (.bool false)], args := [d1, d2] }
  | _ => none }
def AlarmsRawWrongFalsely : Prop := alarmsRawRow.holds Try.pinned (OpenSpec.ofChange alarmsRawWrong)

/-- 'minecontrollaw41.AlarmsMade': WHATEVER THE INPUT: true; the input reads as it did. -/
def alarmsMadeSpec : ChangeSpec := { name := "alarmsMade", fn := fun _ => fun
  | [d1, d2] => { results := [.lit (.bool true)], args := [d1, d2] }
  | _ => none }
def alarmsMadeRow : OpenClaim := { program := "ytnhdamflfebofaa", sum := "fb04b67bdfd6a589681eb6129235d505359b6860afe8cf5848a682f2c5d0838e", func := "minecontrol/minecontrollaw41.AlarmsMade", spec := "alarmsMade", inPlace := ["slices.overlaps[minecontrol/api.Alarm]"], unfollowed := true, recurses := true, apart := false }
def AlarmsMadeSaid : Prop := alarmsMadeRow.holds Try.pinned (OpenSpec.ofChange alarmsMadeSpec)

/-- ITS FALSE NEIGHBOUR: 'it returns false'. Refute it at one input. -/
def alarmsMadeWrong : ChangeSpec := { name := "alarmsMade", fn := fun _ => fun
  | [d1, d2] => { results := [.lit (.bool false)], args := [d1, d2] }
  | _ => none }
def AlarmsMadeWrongFalsely : Prop := alarmsMadeRow.holds Try.pinned (OpenSpec.ofChange alarmsMadeWrong)

/-- 'minecontrollaw41.AlarmsStay': WHATEVER THE INPUT: true; the input reads as it did. -/
def alarmsStaySpec : ChangeSpec := { name := "alarmsStay", fn := fun _ => fun
  | [d] => { results := [.lit (.bool true)], args := [d] }
  | _ => none }
def alarmsStayRow : OpenClaim := { program := "ytnhdamflfebofaa", sum := "fb04b67bdfd6a589681eb6129235d505359b6860afe8cf5848a682f2c5d0838e", func := "minecontrol/minecontrollaw41.AlarmsStay", spec := "alarmsStay", inPlace := ["slices.overlaps[minecontrol/api.Alarm]"], unfollowed := true, recurses := true, apart := false }
def AlarmsStaySaid : Prop := alarmsStayRow.holds Try.pinned (OpenSpec.ofChange alarmsStaySpec)

/-- ITS FALSE NEIGHBOUR: 'it returns false'. Refute it at one input. -/
def alarmsStayWrong : ChangeSpec := { name := "alarmsStay", fn := fun _ => fun
  | [d] => { results := [.lit (.bool false)], args := [d] }
  | _ => none }
def AlarmsStayWrongFalsely : Prop := alarmsStayRow.holds Try.pinned (OpenSpec.ofChange alarmsStayWrong)

/- THE SECOND FORM. 'bulk': how many values and letters a reading holds, each counted each time it is reached (what is shared counts as often as it is met; a slice's spare places count too). A statement '..UptoSaid' is the law's where the arguments, and the package variables that the reading takes, are together of bulk at most 1048576: NARROWER than '..Said'. Prove '..Said' where nothing that the law and all that it calls make is longer than what came in: it says more and counts as full. Else prove '..UptoSaid'. A law counts once. -/
mutual
def uptoBulk {H : Type} : DataW H → Nat
  | .lit (.string bytes) => bytes.length + 1
  | .lit _ => 1
  | .nil => 1
  | .ptr d => uptoBulk d + 1
  | .slice elems spare => uptoBulkAll elems + uptoBulkAll spare + 1
  | .agg parts => uptoBulkAll parts + 1
  | .iface _ d => uptoBulk d + 1
  | .map entries => uptoBulkEntries entries + 1
  | .held _ => 1
def uptoBulkAll {H : Type} : List (DataW H) → Nat
  | [] => 0
  | d :: r => uptoBulk d + uptoBulkAll r
def uptoBulkEntries {H : Type} : List (Lit × DataW H) → Nat
  | [] => 0
  | x :: r => uptoBulkEntry x + uptoBulkEntries r
def uptoBulkEntry {H : Type} : Lit × DataW H → Nat
  | (.string bytes, d) => bytes.length + uptoBulk d + 1
  | (_, d) => uptoBulk d + 1
 end
def uptoSmall : (H : Type) → List (DataW H) → Bool := fun _ ds => decide (uptoBulkAll ds ≤ 1048576)
def OpenSpec.upto (s : _root_.Go.ChangeSpec) : _root_.Go.OpenSpec := { _root_.Go.OpenSpec.ofChange s with cond := some uptoSmall }

/-- 'minecontrollaw41.AlarmsShown', WHERE WHAT IT READS IS OF BULK AT MOST 1048576: true; the input reads as it did. -/
def alarmsShownUptoRow : OpenClaim := { program := "ytnhdamflfebofaa", sum := "fb04b67bdfd6a589681eb6129235d505359b6860afe8cf5848a682f2c5d0838e", func := "minecontrol/minecontrollaw41.AlarmsShown", spec := "alarmsShown", inPlace := ["slices.overlaps[minecontrol/api.Alarm]"], unfollowed := true, recurses := true, apart := false, narrowed := true }
def AlarmsShownUptoSaid : Prop := alarmsShownUptoRow.holds Try.pinned (OpenSpec.upto alarmsShownSpec)

/-- 'minecontrollaw41.AlarmsOrder', WHERE WHAT IT READS IS OF BULK AT MOST 1048576: true; the input reads as it did. -/
def alarmsOrderUptoRow : OpenClaim := { program := "ytnhdamflfebofaa", sum := "fb04b67bdfd6a589681eb6129235d505359b6860afe8cf5848a682f2c5d0838e", func := "minecontrol/minecontrollaw41.AlarmsOrder", spec := "alarmsOrder", inPlace := ["slices.overlaps[minecontrol/api.Alarm]"], unfollowed := true, recurses := true, apart := false, narrowed := true }
def AlarmsOrderUptoSaid : Prop := alarmsOrderUptoRow.holds Try.pinned (OpenSpec.upto alarmsOrderSpec)

/-- 'minecontrollaw41.AlarmsRaw', WHERE WHAT IT READS IS OF BULK AT MOST 1048576: true; the input reads as it did. -/
def alarmsRawUptoRow : OpenClaim := { program := "ytnhdamflfebofaa", sum := "fb04b67bdfd6a589681eb6129235d505359b6860afe8cf5848a682f2c5d0838e", func := "minecontrol/minecontrollaw41.AlarmsRaw", spec := "alarmsRaw", inPlace := ["slices.overlaps[minecontrol/api.Alarm]"], unfollowed := true, recurses := true, apart := false, narrowed := true }
def AlarmsRawUptoSaid : Prop := alarmsRawUptoRow.holds Try.pinned (OpenSpec.upto alarmsRawSpec)

/-- 'minecontrollaw41.AlarmsMade', WHERE WHAT IT READS IS OF BULK AT MOST 1048576: true; the input reads as it did. -/
def alarmsMadeUptoRow : OpenClaim := { program := "ytnhdamflfebofaa", sum := "fb04b67bdfd6a589681eb6129235d505359b6860afe8cf5848a682f2c5d0838e", func := "minecontrol/minecontrollaw41.AlarmsMade", spec := "alarmsMade", inPlace := ["slices.overlaps[minecontrol/api.Alarm]"], unfollowed := true, recurses := true, apart := false, narrowed := true }
def AlarmsMadeUptoSaid : Prop := alarmsMadeUptoRow.holds Try.pinned (OpenSpec.upto alarmsMadeSpec)

/-- 'minecontrollaw41.AlarmsStay', WHERE WHAT IT READS IS OF BULK AT MOST 1048576: true; the input reads as it did. -/
def alarmsStayUptoRow : OpenClaim := { program := "ytnhdamflfebofaa", sum := "fb04b67bdfd6a589681eb6129235d505359b6860afe8cf5848a682f2c5d0838e", func := "minecontrol/minecontrollaw41.AlarmsStay", spec := "alarmsStay", inPlace := ["slices.overlaps[minecontrol/api.Alarm]"], unfollowed := true, recurses := true, apart := false, narrowed := true }
def AlarmsStayUptoSaid : Prop := alarmsStayUptoRow.holds Try.pinned (OpenSpec.upto alarmsStaySpec)

end Rows
end Go.Proofs.Ytnhdamflfebofaa
