/- DoorLocks: for every input the law returns true, and each argument reads as it did. Without conditions. -/
import Derived.Test.YtnmimlcnifflbaaRows
import Derived.Test.YtnmimlcnifflbaaL08DoorLocksW2
import Derived.Test.YtnmimlcnifflbaaP08C
import Derived.Test.YtnmimlcnifflbaaAmlZ
import Derived.WalkKit
import Derived.ProofKit
import Derived.OpenShut
import Derived.Below
namespace Go.Proofs.Ytnmimlcnifflbaa
open Go Go.Aml Go.L Go.ChangeShapes Go.WideShapes Go.ChangeAt Go.RowKit
set_option linter.unusedVariables false

theorem ty_5 : TyOk Try.prog 5 (fun x : Int => [.int .u8 x]) (In .u8) := ty_int (by kernel_rfl)
theorem ty_22 : TyOk Try.prog 22 (fun x : List Int => [.vs 1 (List.map (PV.int .u8) x)]) (InL (In .u8)) := ty_slice (f := (PV.int .u8)) (e := 5) (ag := false) (by kernel_rfl) (by kernel_rfl) (by kernel_rfl) ty_5 (fun _ => rfl)
theorem ty_44 : TyOk Try.prog 44 (fun x : Int => [.int .u16 x]) (In .u16) := ty_int (by kernel_rfl)
theorem ty_41 : TyOk Try.prog 41 (fun x : List Int => [.vs 1 (List.map (PV.int .u16) x)]) (InL (In .u16)) := ty_slice (f := (PV.int .u16)) (e := 44) (ag := false) (by kernel_rfl) (by kernel_rfl) (by kernel_rfl) ty_44 (fun _ => rfl)

set_option maxRecDepth 100000 in
theorem calls_DoorLocks (pcs0 : List PV) (hT0 : Typed Try.prog [22, 41] pcs0) : VCalls Try.prog 5 pcs0 [] fun r _ => r = .bool true := by
  obtain ⟨c0, pcs1, q0, rfl, h0, rfl, hT1⟩ := typed_cons hT0
  obtain ⟨p0, rfl, w0⟩ := ty_22 q0 h0
  obtain ⟨c1, pcs2, q1, rfl, h1, rfl, hT2⟩ := typed_cons hT1
  obtain ⟨p1, rfl, w1⟩ := ty_41 q1 h1
  obtain rfl := typed_nil hT2
  have h := (F_law08_DoorLocks_ok (law_DoorLocks p0 w0 p1 w1) []).mono fun r low' h => h.1
  have e : ([mkE (tAgg Try.prog 22) ((fun x : List Int => [.vs 1 (List.map (PV.int .u8) x)]) p0), mkE (tAgg Try.prog 41) ((fun x : List Int => [.vs 1 (List.map (PV.int .u16) x)]) p1)] : List PV) = [.vs 1 (List.map (PV.int .u8) p0), .vs 1 (List.map (PV.int .u16) p1)] := by
    rw [show tAgg Try.prog 22 = some false from by kernel_rfl, show tAgg Try.prog 41 = some false from by kernel_rfl]
    rfl
  rw [e]
  exact h

set_option maxRecDepth 100000 in
theorem lifted_DoorLocks (os : Os) (started : os.Started) (H : Type) (enc : TypeId × Value → H) :
    ReturnsInHanded {} Try.checked os 5 .any (Rows.doorLocksSpec.pre6 enc Try.prog Try.f5 Rows.doorLocksRow.domain false) (Rows.doorLocksSpec.post enc Try.prog Try.f5 false true false false) :=
  law_lifted (C := Try.checked) (tb := 4) (by kernel_rfl) started (by kernel_rfl) Try.func5
    (ChangeSpec.witness6 (enc := enc) (C := Try.checked) false ⟨#[], #[.slice none 0 0, .slice none 0 0], []⟩ 8 (by kernel_rfl) (by kernel_rfl) (by kernel_rfl) (by kernel_rfl))
    (by kernel_rfl) (by kernel_rfl) (by kernel_rfl) rfl rfl Try.underlying4 (fun ds hl => by
      match ds, hl with
      | [_, _], _ => rfl) calls_DoorLocks

theorem doorLocks_holds : Rows.DoorLocksSaid :=
  OpenClaim.holds_of_wide 5 Try.f5 rfl rfl rfl rfl rfl rfl rfl ⟨rfl, rfl, rfl, rfl, rfl⟩ rfl rfl rfl rfl rfl (by kernel_rfl) Try.func5 (by kernel_rfl)
    (of_decide_eq_true (by kernel_rfl)) (by unfold Func.isWrapper; first | (rw [if_pos (by decide +kernel)]; kernel_rfl) | (rw [if_neg (by decide +kernel)]; exact ⟨rfl, rfl⟩))
    (fun os started H enc _ => lifted_DoorLocks os started H enc)
#print axioms doorLocks_holds
end Go.Proofs.Ytnmimlcnifflbaa
