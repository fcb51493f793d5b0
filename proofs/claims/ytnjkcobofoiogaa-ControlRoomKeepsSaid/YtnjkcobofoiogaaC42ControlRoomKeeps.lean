/- ControlRoomKeeps: for every input the law returns true, and each argument reads as it did. Without conditions. -/
import Derived.Test.YtnjkcobofoiogaaRows
import Derived.Test.YtnjkcobofoiogaaL42ControlRoomKeepsW2
import Derived.Test.YtnjkcobofoiogaaPQ
import Derived.Test.YtnjkcobofoiogaaAmlZ
import Derived.WalkKit
import Derived.ProofKit
import Derived.OpenShut
import Derived.Below
namespace Go.Proofs.Ytnjkcobofoiogaa
open Go Go.Aml Go.L Go.ChangeShapes Go.WideShapes Go.ChangeAt Go.RowKit
set_option linter.unusedVariables false

theorem ty_3 : TyOk Try.prog 3 (fun x : Int => [.int .i64 x]) (In .i64) := ty_int (by kernel_rfl)
theorem ty_22 : TyOk Try.prog 22 (fun x : List Int => [.vs 1 (List.map (PV.int .i64) x)]) (InL (In .i64)) := ty_slice (f := (PV.int .i64)) (e := 3) (ag := false) (by kernel_rfl) (by kernel_rfl) (by kernel_rfl) ty_3 (fun _ => rfl)
theorem ty_5 : TyOk Try.prog 5 (fun x : Int => [.int .u8 x]) (In .u8) := ty_int (by kernel_rfl)

set_option maxRecDepth 100000 in
theorem calls_ControlRoomKeeps (pcs0 : List PV) (hT0 : Typed Try.prog [22, 3, 5] pcs0) : VCalls Try.prog 7 pcs0 [] fun r _ => r = .bool true := by
  obtain ⟨c0, pcs1, q0, rfl, h0, rfl, hT1⟩ := typed_cons hT0
  obtain ⟨p0, rfl, w0⟩ := ty_22 q0 h0
  obtain ⟨c1, pcs2, q1, rfl, h1, rfl, hT2⟩ := typed_cons hT1
  obtain ⟨p1, rfl, w1⟩ := ty_3 q1 h1
  obtain ⟨c2, pcs3, q2, rfl, h2, rfl, hT3⟩ := typed_cons hT2
  obtain ⟨p2, rfl, w2⟩ := ty_5 q2 h2
  obtain rfl := typed_nil hT3
  have h := (F_law42_ControlRoomKeeps_ok (law_ControlRoomKeeps p0 w0 p1 w1 p2 w2) []).mono fun r low' h => h.1
  have e : ([mkE (tAgg Try.prog 22) ((fun x : List Int => [.vs 1 (List.map (PV.int .i64) x)]) p0), mkE (tAgg Try.prog 3) ((fun x : Int => [.int .i64 x]) p1), mkE (tAgg Try.prog 5) ((fun x : Int => [.int .u8 x]) p2)] : List PV) = [.vs 1 (List.map (PV.int .i64) p0), .int .i64 p1, .int .u8 p2] := by
    rw [show tAgg Try.prog 22 = some false from by kernel_rfl, show tAgg Try.prog 3 = some false from by kernel_rfl, show tAgg Try.prog 5 = some false from by kernel_rfl]
    rfl
  rw [e]
  exact h

set_option maxRecDepth 100000 in
theorem lifted_ControlRoomKeeps (os : Os) (started : os.Started) (H : Type) (enc : TypeId × Value → H) :
    ReturnsInHanded {} Try.checked os 7 .any (Rows.controlRoomKeepsSpec.pre6 enc Try.prog Try.f7 Rows.controlRoomKeepsRow.domain false) (Rows.controlRoomKeepsSpec.post enc Try.prog Try.f7 false true false false) :=
  law_lifted (C := Try.checked) (tb := 4) (by kernel_rfl) started (by kernel_rfl) Try.func7
    (ChangeSpec.witness6 (enc := enc) (C := Try.checked) false ⟨#[], #[.slice none 0 0, .int .i64 0, .int .u8 0], []⟩ 8 (by kernel_rfl) (by kernel_rfl) (by kernel_rfl) (by kernel_rfl))
    (by kernel_rfl) (by kernel_rfl) (by kernel_rfl) rfl rfl Try.underlying4 (fun ds hl => by
      match ds, hl with
      | [_, _, _], _ => rfl) calls_ControlRoomKeeps

theorem controlRoomKeeps_holds : Rows.ControlRoomKeepsSaid :=
  OpenClaim.holds_of_wide 7 Try.f7 rfl rfl rfl rfl rfl rfl rfl ⟨rfl, rfl, rfl, rfl, rfl⟩ rfl rfl rfl rfl rfl (by kernel_rfl) Try.func7 (by kernel_rfl)
    (of_decide_eq_true (by kernel_rfl)) (by unfold Func.isWrapper; first | (rw [if_pos (by decide +kernel)]; kernel_rfl) | (rw [if_neg (by decide +kernel)]; exact ⟨rfl, rfl⟩))
    (fun os started H enc _ => lifted_ControlRoomKeeps os started H enc)
#print axioms controlRoomKeeps_holds
end Go.Proofs.Ytnjkcobofoiogaa
