/-
  No cell of these rows narrows 'for every input' (looked for: loops, veiled, ifaces, maps, wideKeys, modest, calm, conditions, laid).
  DERIVED. THE GIVEN ROWS OF THIS SEAT. 6 by the template 'for every input the law returns true; each argument reads behind the call as it read before'; 0 by the template 'total and deterministic' (their statements: YteaagckebpanbaaTotals.lean).
  GIVEN WITH THE SEED: the statements are not yours to turn. If you find one false, say at which input.
  Laid BY PROGRAM, IN A SANDBOX (cutbox-rows.mjs): the forced cells as the released guide's own fill.sh prints them over the translation 14d3626e0125ea08… (all of the seat's roots in one cut). By AI agents, Wed Nov 11 2026. No macro, syntax, notation, axiom, sorry.
-/
import Derived.Test.YteaagckebpanbaaChecked
import GoSem.Claim
import GoSem.ClaimJoined
import GoSem.ClaimMapViews
import Derived.JoinedTies
import Derived.KernelRfl
namespace Go.Proofs.Yteaagckebpanbaa
/- THE CELL 'sum', in the pinned program and in every row, IS THE sha256 OF THE DUMP (.gsa) THAT YteaagckebpanbaaProg.lean LOADS. Nothing in Lean hashes anything: it is a label: what it is worth is what the hold of that sum in a sandbox is worth. -/
noncomputable def Try.pinned : Pinned := { name := "yteaagckebpanbaa", sum := "14d3626e0125ea085f75d5c411a5893a13d080c606bc777f6fa7b6f4468a853d", checked := Try.checked }
namespace Rows
def none {H : Type} : Left H := { results := [], args := [] }

/-- 'minecontrollaw04.TelegramWrites': WHATEVER THE INPUT: true; the input reads as it did. -/
def telegramWritesSpec : ChangeSpec := { name := "telegramWrites", fn := fun _ => fun
  | [d1, d2, d3] => { results := [.lit (.bool true)], args := [d1, d2, d3] }
  | _ => none }
def telegramWritesRow : OpenClaim := { program := "yteaagckebpanbaa", sum := "14d3626e0125ea085f75d5c411a5893a13d080c606bc777f6fa7b6f4468a853d", func := "minecontrol/minecontrollaw04.TelegramWrites", spec := "telegramWrites", apart := false }
def TelegramWritesSaid : Prop := telegramWritesRow.holds Try.pinned (OpenSpec.ofChange telegramWritesSpec)

/-- ITS FALSE NEIGHBOUR: 'it returns false'. Refute it at one input. -/
def telegramWritesWrong : ChangeSpec := { name := "telegramWrites", fn := fun _ => fun
  | [d1, d2, d3] => { results := [.lit (.bool false)], args := [d1, d2, d3] }
  | _ => none }
def TelegramWritesWrongFalsely : Prop := telegramWritesRow.holds Try.pinned (OpenSpec.ofChange telegramWritesWrong)

/-- 'minecontrollaw04.TelegramReads': WHATEVER THE INPUT: true; the input reads as it did. -/
def telegramReadsSpec : ChangeSpec := { name := "telegramReads", fn := fun _ => fun
  | [d1, d2, d3, d4] => { results := [.lit (.bool true)], args := [d1, d2, d3, d4] }
  | _ => none }
def telegramReadsRow : OpenClaim := { program := "yteaagckebpanbaa", sum := "14d3626e0125ea085f75d5c411a5893a13d080c606bc777f6fa7b6f4468a853d", func := "minecontrol/minecontrollaw04.TelegramReads", spec := "telegramReads", apart := false }
def TelegramReadsSaid : Prop := telegramReadsRow.holds Try.pinned (OpenSpec.ofChange telegramReadsSpec)

/-- ITS FALSE NEIGHBOUR: 'it returns false'. Refute it at one input. -/
def telegramReadsWrong : ChangeSpec := { name := "telegramReads", fn := fun _ => fun
  | [d1, d2, d3, d4] => { results := [.lit (.bool false)], args := [d1, d2, d3, d4] }
  | _ => none }
def TelegramReadsWrongFalsely : Prop := telegramReadsRow.holds Try.pinned (OpenSpec.ofChange telegramReadsWrong)

/-- 'minecontrollaw04.TelegramPieces': WHATEVER THE INPUT: true; the input reads as it did. -/
def telegramPiecesSpec : ChangeSpec := { name := "telegramPieces", fn := fun _ => fun
  | [d1, d2] => { results := [.lit (.bool true)], args := [d1, d2] }
  | _ => none }
def telegramPiecesRow : OpenClaim := { program := "yteaagckebpanbaa", sum := "14d3626e0125ea085f75d5c411a5893a13d080c606bc777f6fa7b6f4468a853d", func := "minecontrol/minecontrollaw04.TelegramPieces", spec := "telegramPieces", apart := false }
def TelegramPiecesSaid : Prop := telegramPiecesRow.holds Try.pinned (OpenSpec.ofChange telegramPiecesSpec)

/-- ITS FALSE NEIGHBOUR: 'it returns false'. Refute it at one input. -/
def telegramPiecesWrong : ChangeSpec := { name := "telegramPieces", fn := fun _ => fun
  | [d1, d2] => { results := [.lit (.bool false)], args := [d1, d2] }
  | _ => none }
def TelegramPiecesWrongFalsely : Prop := telegramPiecesRow.holds Try.pinned (OpenSpec.ofChange telegramPiecesWrong)

/-- 'minecontrollaw04.TelegramBack': WHATEVER THE INPUT: true; the input reads as it did. -/
def telegramBackSpec : ChangeSpec := { name := "telegramBack", fn := fun _ => fun
  | [d1, d2] => { results := [.lit (.bool true)], args := [d1, d2] }
  | _ => none }
def telegramBackRow : OpenClaim := { program := "yteaagckebpanbaa", sum := "14d3626e0125ea085f75d5c411a5893a13d080c606bc777f6fa7b6f4468a853d", func := "minecontrol/minecontrollaw04.TelegramBack", spec := "telegramBack", apart := false }
def TelegramBackSaid : Prop := telegramBackRow.holds Try.pinned (OpenSpec.ofChange telegramBackSpec)

/-- ITS FALSE NEIGHBOUR: 'it returns false'. Refute it at one input. -/
def telegramBackWrong : ChangeSpec := { name := "telegramBack", fn := fun _ => fun
  | [d1, d2] => { results := [.lit (.bool false)], args := [d1, d2] }
  | _ => none }
def TelegramBackWrongFalsely : Prop := telegramBackRow.holds Try.pinned (OpenSpec.ofChange telegramBackWrong)

/-- 'minecontrollaw04.TelegramDamage': WHATEVER THE INPUT: true; the input reads as it did. -/
def telegramDamageSpec : ChangeSpec := { name := "telegramDamage", fn := fun _ => fun
  | [d1, d2, d3] => { results := [.lit (.bool true)], args := [d1, d2, d3] }
  | _ => none }
def telegramDamageRow : OpenClaim := { program := "yteaagckebpanbaa", sum := "14d3626e0125ea085f75d5c411a5893a13d080c606bc777f6fa7b6f4468a853d", func := "minecontrol/minecontrollaw04.TelegramDamage", spec := "telegramDamage", apart := false }
def TelegramDamageSaid : Prop := telegramDamageRow.holds Try.pinned (OpenSpec.ofChange telegramDamageSpec)

/-- ITS FALSE NEIGHBOUR: 'it returns false'. Refute it at one input. -/
def telegramDamageWrong : ChangeSpec := { name := "telegramDamage", fn := fun _ => fun
  | [d1, d2, d3] => { results := [.lit (.bool false)], args := [d1, d2, d3] }
  | _ => none }
def TelegramDamageWrongFalsely : Prop := telegramDamageRow.holds Try.pinned (OpenSpec.ofChange telegramDamageWrong)

/-- 'minecontrollaw04.TelegramCounts': WHATEVER THE INPUT: true; the input reads as it did. -/
def telegramCountsSpec : ChangeSpec := { name := "telegramCounts", fn := fun _ => fun
  | [d1, d2] => { results := [.lit (.bool true)], args := [d1, d2] }
  | _ => none }
def telegramCountsRow : OpenClaim := { program := "yteaagckebpanbaa", sum := "14d3626e0125ea085f75d5c411a5893a13d080c606bc777f6fa7b6f4468a853d", func := "minecontrol/minecontrollaw04.TelegramCounts", spec := "telegramCounts", apart := false }
def TelegramCountsSaid : Prop := telegramCountsRow.holds Try.pinned (OpenSpec.ofChange telegramCountsSpec)

/-- ITS FALSE NEIGHBOUR: 'it returns false'. Refute it at one input. -/
def telegramCountsWrong : ChangeSpec := { name := "telegramCounts", fn := fun _ => fun
  | [d1, d2] => { results := [.lit (.bool false)], args := [d1, d2] }
  | _ => none }
def TelegramCountsWrongFalsely : Prop := telegramCountsRow.holds Try.pinned (OpenSpec.ofChange telegramCountsWrong)

/- THE SECOND FORM. 'bulk': how many values and letters a reading holds, each counted each time it is reached (what is shared counts as often as it is met; a slice's spare places count too). A statement '..UptoSaid' is the law's where the arguments, and the package variables that the reading takes, are together of bulk at most 1048576: NARROWER than '..Said'. Prove '..Said' where nothing that the law and all that it calls make is longer than what came in: it says more and counts as full. Else prove '..UptoSaid'. A law counts once. -/
mutual
def uptoBulk {H : Type} : DataW H → Nat
  | .lit (.string bytes) => bytes.length + 1
  | .lit _ => 1
  | .nil => 1
  | .ptr d => uptoBulk d + 1
  | .slice elems spare => uptoBulkAll elems + uptoBulkAll spare + 1
  | .agg parts => uptoBulkAll parts + 1
  | .iface _ d => uptoBulk d + 1
  | .map entries => uptoBulkEntries entries + 1
  | .held _ => 1
def uptoBulkAll {H : Type} : List (DataW H) → Nat
  | [] => 0
  | d :: r => uptoBulk d + uptoBulkAll r
def uptoBulkEntries {H : Type} : List (Lit × DataW H) → Nat
  | [] => 0
  | x :: r => uptoBulkEntry x + uptoBulkEntries r
def uptoBulkEntry {H : Type} : Lit × DataW H → Nat
  | (.string bytes, d) => bytes.length + uptoBulk d + 1
  | (_, d) => uptoBulk d + 1
 end
def uptoSmall : (H : Type) → List (DataW H) → Bool := fun _ ds => decide (uptoBulkAll ds ≤ 1048576)
def OpenSpec.upto (s : _root_.Go.ChangeSpec) : _root_.Go.OpenSpec := { _root_.Go.OpenSpec.ofChange s with cond := some uptoSmall }

/-- 'minecontrollaw04.TelegramWrites', WHERE WHAT IT READS IS OF BULK AT MOST 1048576: true; the input reads as it did. -/
def telegramWritesUptoRow : OpenClaim := { program := "yteaagckebpanbaa", sum := "14d3626e0125ea085f75d5c411a5893a13d080c606bc777f6fa7b6f4468a853d", func := "minecontrol/minecontrollaw04.TelegramWrites", spec := "telegramWrites", apart := false, narrowed := true }
def TelegramWritesUptoSaid : Prop := telegramWritesUptoRow.holds Try.pinned (OpenSpec.upto telegramWritesSpec)

/-- 'minecontrollaw04.TelegramReads', WHERE WHAT IT READS IS OF BULK AT MOST 1048576: true; the input reads as it did. -/
def telegramReadsUptoRow : OpenClaim := { program := "yteaagckebpanbaa", sum := "14d3626e0125ea085f75d5c411a5893a13d080c606bc777f6fa7b6f4468a853d", func := "minecontrol/minecontrollaw04.TelegramReads", spec := "telegramReads", apart := false, narrowed := true }
def TelegramReadsUptoSaid : Prop := telegramReadsUptoRow.holds Try.pinned (OpenSpec.upto telegramReadsSpec)

/-- 'minecontrollaw04.TelegramPieces', WHERE WHAT IT READS IS OF BULK AT MOST 1048576: true; the input reads as it did. -/
def telegramPiecesUptoRow : OpenClaim := { program := "yteaagckebpanbaa", sum := "14d3626e0125ea085f75d5c411a5893a13d080c606bc777f6fa7b6f4468a853d", func := "minecontrol/minecontrollaw04.TelegramPieces", spec := "telegramPieces", apart := false, narrowed := true }
def TelegramPiecesUptoSaid : Prop := telegramPiecesUptoRow.holds Try.pinned (OpenSpec.upto telegramPiecesSpec)

/-- 'minecontrollaw04.TelegramBack', WHERE WHAT IT READS IS OF BULK AT MOST 1048576: true; the input reads as it did. -/
def telegramBackUptoRow : OpenClaim := { program := "yteaagckebpanbaa", sum := "14d3626e0125ea085f75d5c411a5893a13d080c606bc777f6fa7b6f4468a853d", func := "minecontrol/minecontrollaw04.TelegramBack", spec := "telegramBack", apart := false, narrowed := true }
def TelegramBackUptoSaid : Prop := telegramBackUptoRow.holds Try.pinned (OpenSpec.upto telegramBackSpec)

/-- 'minecontrollaw04.TelegramDamage', WHERE WHAT IT READS IS OF BULK AT MOST 1048576: true; the input reads as it did. -/
def telegramDamageUptoRow : OpenClaim := { program := "yteaagckebpanbaa", sum := "14d3626e0125ea085f75d5c411a5893a13d080c606bc777f6fa7b6f4468a853d", func := "minecontrol/minecontrollaw04.TelegramDamage", spec := "telegramDamage", apart := false, narrowed := true }
def TelegramDamageUptoSaid : Prop := telegramDamageUptoRow.holds Try.pinned (OpenSpec.upto telegramDamageSpec)

/-- 'minecontrollaw04.TelegramCounts', WHERE WHAT IT READS IS OF BULK AT MOST 1048576: true; the input reads as it did. -/
def telegramCountsUptoRow : OpenClaim := { program := "yteaagckebpanbaa", sum := "14d3626e0125ea085f75d5c411a5893a13d080c606bc777f6fa7b6f4468a853d", func := "minecontrol/minecontrollaw04.TelegramCounts", spec := "telegramCounts", apart := false, narrowed := true }
def TelegramCountsUptoSaid : Prop := telegramCountsUptoRow.holds Try.pinned (OpenSpec.upto telegramCountsSpec)

end Rows
end Go.Proofs.Yteaagckebpanbaa
