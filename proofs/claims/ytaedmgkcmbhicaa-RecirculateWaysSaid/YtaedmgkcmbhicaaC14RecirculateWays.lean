/- RecirculateWays: for every input the law returns true, and each argument reads as it did. Without conditions. -/
import Derived.Test.YtaedmgkcmbhicaaRows
import Derived.Test.YtaedmgkcmbhicaaL14RecirculateWaysW4
import Derived.Test.YtaedmgkcmbhicaaP14F
import Derived.Test.YtaedmgkcmbhicaaAmlZ
import Derived.WalkKit
import Derived.ProofKit
import Derived.OpenShut
import Derived.Below
namespace Go.Proofs.Ytaedmgkcmbhicaa
open Go Go.Aml Go.L Go.ChangeShapes Go.WideShapes Go.ChangeAt Go.RowKit
set_option linter.unusedVariables false

theorem ty_5 : TyOk Try.prog 5 (fun x : Int => [.int .u8 x]) (In .u8) := ty_int (by kernel_rfl)
theorem ty_22 : TyOk Try.prog 22 (fun x : List Int => [.vs 1 (List.map (PV.int .u8) x)]) (InL (In .u8)) := ty_slice (f := (PV.int .u8)) (e := 5) (ag := false) (by kernel_rfl) (by kernel_rfl) (by kernel_rfl) ty_5 (fun _ => rfl)
theorem ty_3 : TyOk Try.prog 3 (fun x : Int => [.int .i64 x]) (In .i64) := ty_int (by kernel_rfl)
theorem ty_44 : TyOk Try.prog 44 (fun x : T_Span => [.int .i64 x.Low, .int .i64 x.High]) T_Span.Wf := by
  intro p hp
  obtain ⟨ps0, rfl, g0⟩ := tp_parts (ts := [3, 3]) (by kernel_rfl) hp
  obtain ⟨p0, ps1, rfl, h0, g1⟩ := tps_cons g0
  obtain ⟨x0, rfl, w0⟩ := ty_3 p0 h0
  obtain ⟨p1, ps2, rfl, h1, g2⟩ := tps_cons g1
  obtain ⟨x1, rfl, w1⟩ := ty_3 p1 h1
  obtain rfl := tps_nil g2
  exact ⟨⟨x0, x1⟩, rfl, ⟨w0, w1, trivial⟩⟩
theorem ty_23 : TyOk Try.prog 23 (fun x : List T_Span => [.vs 2 (List.map T_Span.enc x)]) (InL T_Span.Wf) := ty_slice (f := T_Span.enc) (e := 44) (ag := true) (by kernel_rfl) (by kernel_rfl) (by kernel_rfl) ty_44 (fun _ => rfl)

set_option maxRecDepth 100000 in
theorem calls_RecirculateWays (pcs0 : List PV) (hT0 : Typed Try.prog [22, 23] pcs0) : VCalls Try.prog 3 pcs0 [] fun r _ => r = .bool true := by
  obtain ⟨c0, pcs1, q0, rfl, h0, rfl, hT1⟩ := typed_cons hT0
  obtain ⟨p0, rfl, w0⟩ := ty_22 q0 h0
  obtain ⟨c1, pcs2, q1, rfl, h1, rfl, hT2⟩ := typed_cons hT1
  obtain ⟨p1, rfl, w1⟩ := ty_23 q1 h1
  obtain rfl := typed_nil hT2
  have h := (F_law14_RecirculateWays_ok (law_RecirculateWays p0 w0 p1 w1) []).mono fun r low' h => h.1
  have e : ([mkE (tAgg Try.prog 22) ((fun x : List Int => [.vs 1 (List.map (PV.int .u8) x)]) p0), mkE (tAgg Try.prog 23) ((fun x : List T_Span => [.vs 2 (List.map T_Span.enc x)]) p1)] : List PV) = [.vs 1 (List.map (PV.int .u8) p0), .vs 2 (List.map T_Span.enc p1)] := by
    rw [show tAgg Try.prog 22 = some false from by kernel_rfl, show tAgg Try.prog 23 = some false from by kernel_rfl]
    rfl
  rw [e]
  exact h

set_option maxRecDepth 100000 in
theorem lifted_RecirculateWays (os : Os) (started : os.Started) (H : Type) (enc : TypeId × Value → H) :
    ReturnsInHanded {} Try.checked os 3 .any (Rows.recirculateWaysSpec.pre6 enc Try.prog Try.f3 Rows.recirculateWaysRow.domain false) (Rows.recirculateWaysSpec.post enc Try.prog Try.f3 false true false false) :=
  law_lifted (C := Try.checked) (tb := 4) (by kernel_rfl) started (by kernel_rfl) Try.func3
    (ChangeSpec.witness6 (enc := enc) (C := Try.checked) false ⟨#[], #[.slice none 0 0, .slice none 0 0], []⟩ 8 (by kernel_rfl) (by kernel_rfl) (by kernel_rfl) (by kernel_rfl))
    (by kernel_rfl) (by kernel_rfl) (by kernel_rfl) rfl rfl Try.underlying4 (fun ds hl => by
      match ds, hl with
      | [_, _], _ => rfl) calls_RecirculateWays

theorem recirculateWays_holds : Rows.RecirculateWaysSaid :=
  OpenClaim.holds_of_wide 3 Try.f3 rfl rfl rfl rfl rfl rfl rfl ⟨rfl, rfl, rfl, rfl, rfl⟩ rfl rfl rfl rfl rfl (by kernel_rfl) Try.func3 (by kernel_rfl)
    (of_decide_eq_true (by kernel_rfl)) (by unfold Func.isWrapper; first | (rw [if_pos (by decide +kernel)]; kernel_rfl) | (rw [if_neg (by decide +kernel)]; exact ⟨rfl, rfl⟩))
    (fun os started H enc _ => lifted_RecirculateWays os started H enc)
#print axioms recirculateWays_holds
end Go.Proofs.Ytaedmgkcmbhicaa
