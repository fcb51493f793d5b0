/- AlarmsStay: for every input the law returns true, and each argument reads as it did. Without conditions. -/
import Derived.Test.YtnhdamflfebofaaRows
import Derived.Test.YtnhdamflfebofaaL41AlarmsStayW2
import Derived.Test.YtnhdamflfebofaaPQ
import Derived.Test.YtnhdamflfebofaaAmlZ
import Derived.WalkKit
import Derived.ProofKit
import Derived.OpenShut
import Derived.Below
namespace Go.Proofs.Ytnhdamflfebofaa
open Go Go.Aml Go.L Go.ChangeShapes Go.WideShapes Go.ChangeAt Go.RowKit
set_option linter.unusedVariables false

theorem ty_3 : TyOk Try.prog 3 (fun x : Int => [.int .i64 x]) (In .i64) := ty_int (by kernel_rfl)
theorem ty_22 : TyOk Try.prog 22 (fun x : List Int => [.vs 1 (List.map (PV.int .i64) x)]) (InL (In .i64)) := ty_slice (f := (PV.int .i64)) (e := 3) (ag := false) (by kernel_rfl) (by kernel_rfl) (by kernel_rfl) ty_3 (fun _ => rfl)

set_option maxRecDepth 100000 in
theorem calls_AlarmsStay (pcs0 : List PV) (hT0 : Typed Try.prog [22] pcs0) : VCalls Try.prog 7 pcs0 [] fun r _ => r = .bool true := by
  obtain ⟨c0, pcs1, q0, rfl, h0, rfl, hT1⟩ := typed_cons hT0
  obtain ⟨p0, rfl, w0⟩ := ty_22 q0 h0
  obtain rfl := typed_nil hT1
  have h := (F_law41_AlarmsStay_ok (law_AlarmsStay p0 w0) []).mono fun r low' h => h.1
  have e : ([mkE (tAgg Try.prog 22) ((fun x : List Int => [.vs 1 (List.map (PV.int .i64) x)]) p0)] : List PV) = [.vs 1 (List.map (PV.int .i64) p0)] := by
    rw [show tAgg Try.prog 22 = some false from by kernel_rfl]
    rfl
  rw [e]
  exact h

set_option maxRecDepth 100000 in
theorem lifted_AlarmsStay (os : Os) (started : os.Started) (H : Type) (enc : TypeId × Value → H) :
    ReturnsInHanded {} Try.checked os 7 .any (Rows.alarmsStaySpec.pre6 enc Try.prog Try.f7 Rows.alarmsStayRow.domain false) (Rows.alarmsStaySpec.post enc Try.prog Try.f7 false true false false) :=
  law_lifted (C := Try.checked) (tb := 4) (by kernel_rfl) started (by kernel_rfl) Try.func7
    (ChangeSpec.witness6 (enc := enc) (C := Try.checked) false ⟨#[], #[.slice none 0 0], []⟩ 8 (by kernel_rfl) (by kernel_rfl) (by kernel_rfl) (by kernel_rfl))
    (by kernel_rfl) (by kernel_rfl) (by kernel_rfl) rfl rfl Try.underlying4 (fun ds hl => by
      match ds, hl with
      | [_], _ => rfl) calls_AlarmsStay

theorem alarmsStay_holds : Rows.AlarmsStaySaid :=
  OpenClaim.holds_of_wide 7 Try.f7 rfl rfl rfl rfl rfl rfl rfl ⟨rfl, rfl, rfl, rfl, rfl⟩ rfl rfl rfl rfl rfl (by kernel_rfl) Try.func7 (by kernel_rfl)
    (of_decide_eq_true (by kernel_rfl)) (by unfold Func.isWrapper; first | (rw [if_pos (by decide +kernel)]; kernel_rfl) | (rw [if_neg (by decide +kernel)]; exact ⟨rfl, rfl⟩))
    (fun os started H enc _ => lifted_AlarmsStay os started H enc)
#print axioms alarmsStay_holds
end Go.Proofs.Ytnhdamflfebofaa
