/- GasBounds: for every input the law returns true, and each argument reads as it did. Without conditions. -/
import Derived.Test.YticjalhfpjlbdaaRows
import Derived.Test.YticjalhfpjlbdaaL16GasBoundsW6
import Derived.Test.YticjalhfpjlbdaaPQ
import Derived.Test.YticjalhfpjlbdaaAmlZ
import Derived.WalkKit
import Derived.ProofKit
import Derived.OpenShut
import Derived.Below
namespace Go.Proofs.Yticjalhfpjlbdaa
open Go Go.Aml Go.L Go.ChangeShapes Go.WideShapes Go.ChangeAt Go.RowKit
set_option linter.unusedVariables false

theorem ty_5 : TyOk Try.prog 5 (fun x : Int => [.int .u8 x]) (In .u8) := ty_int (by kernel_rfl)
theorem ty_22 : TyOk Try.prog 22 (fun x : List Int => [.vs 1 (List.map (PV.int .u8) x)]) (InL (In .u8)) := ty_slice (f := (PV.int .u8)) (e := 5) (ag := false) (by kernel_rfl) (by kernel_rfl) (by kernel_rfl) ty_5 (fun _ => rfl)
theorem ty_3 : TyOk Try.prog 3 (fun x : Int => [.int .i64 x]) (In .i64) := ty_int (by kernel_rfl)
theorem ty_57 : TyOk Try.prog 57 (fun x : T_Span => [.int .i64 x.Low, .int .i64 x.High]) T_Span.Wf := by
  intro p hp
  obtain ⟨ps0, rfl, g0⟩ := tp_parts (ts := [3, 3]) (by kernel_rfl) hp
  obtain ⟨p0, ps1, rfl, h0, g1⟩ := tps_cons g0
  obtain ⟨x0, rfl, w0⟩ := ty_3 p0 h0
  obtain ⟨p1, ps2, rfl, h1, g2⟩ := tps_cons g1
  obtain ⟨x1, rfl, w1⟩ := ty_3 p1 h1
  obtain rfl := tps_nil g2
  exact ⟨⟨x0, x1⟩, rfl, ⟨w0, w1, trivial⟩⟩
theorem ty_65 : TyOk Try.prog 65 (fun x : T_Source => [.int .i64 x.Road, .int .i64 x.Inflow.Low, .int .i64 x.Inflow.High]) T_Source.Wf := by
  intro p hp
  obtain ⟨ps0, rfl, g0⟩ := tp_parts (ts := [3, 57]) (by kernel_rfl) hp
  obtain ⟨p0, ps1, rfl, h0, g1⟩ := tps_cons g0
  obtain ⟨x0, rfl, w0⟩ := ty_3 p0 h0
  obtain ⟨p1, ps2, rfl, h1, g2⟩ := tps_cons g1
  obtain ⟨x1, rfl, w1⟩ := ty_57 p1 h1
  obtain rfl := tps_nil g2
  exact ⟨⟨x0, x1⟩, rfl, ⟨w0, w1, trivial⟩⟩
theorem ty_23 : TyOk Try.prog 23 (fun x : List T_Source => [.vs 3 (List.map T_Source.enc x)]) (InL T_Source.Wf) := ty_slice (f := T_Source.enc) (e := 65) (ag := true) (by kernel_rfl) (by kernel_rfl) (by kernel_rfl) ty_65 (fun _ => rfl)
theorem ty_24 : TyOk Try.prog 24 (fun x : List T_Span => [.vs 2 (List.map T_Span.enc x)]) (InL T_Span.Wf) := ty_slice (f := T_Span.enc) (e := 57) (ag := true) (by kernel_rfl) (by kernel_rfl) (by kernel_rfl) ty_57 (fun _ => rfl)

set_option maxRecDepth 100000 in
theorem calls_GasBounds (pcs0 : List PV) (hT0 : Typed Try.prog [22, 23, 24] pcs0) : VCalls Try.prog 3 pcs0 [] fun r _ => r = .bool true := by
  obtain ⟨c0, pcs1, q0, rfl, h0, rfl, hT1⟩ := typed_cons hT0
  obtain ⟨p0, rfl, w0⟩ := ty_22 q0 h0
  obtain ⟨c1, pcs2, q1, rfl, h1, rfl, hT2⟩ := typed_cons hT1
  obtain ⟨p1, rfl, w1⟩ := ty_23 q1 h1
  obtain ⟨c2, pcs3, q2, rfl, h2, rfl, hT3⟩ := typed_cons hT2
  obtain ⟨p2, rfl, w2⟩ := ty_24 q2 h2
  obtain rfl := typed_nil hT3
  have h := (F_law16_GasBounds_ok (law_GasBounds p0 w0 p1 w1 p2 w2) []).mono fun r low' h => h.1
  have e : ([mkE (tAgg Try.prog 22) ((fun x : List Int => [.vs 1 (List.map (PV.int .u8) x)]) p0), mkE (tAgg Try.prog 23) ((fun x : List T_Source => [.vs 3 (List.map T_Source.enc x)]) p1), mkE (tAgg Try.prog 24) ((fun x : List T_Span => [.vs 2 (List.map T_Span.enc x)]) p2)] : List PV) = [.vs 1 (List.map (PV.int .u8) p0), .vs 3 (List.map T_Source.enc p1), .vs 2 (List.map T_Span.enc p2)] := by
    rw [show tAgg Try.prog 22 = some false from by kernel_rfl, show tAgg Try.prog 23 = some false from by kernel_rfl, show tAgg Try.prog 24 = some false from by kernel_rfl]
    rfl
  rw [e]
  exact h

set_option maxRecDepth 100000 in
theorem lifted_GasBounds (os : Os) (started : os.Started) (H : Type) (enc : TypeId × Value → H) :
    ReturnsInHanded {} Try.checked os 3 .any (Rows.gasBoundsSpec.pre6 enc Try.prog Try.f3 Rows.gasBoundsRow.domain false) (Rows.gasBoundsSpec.post enc Try.prog Try.f3 false true false false) :=
  law_lifted (C := Try.checked) (tb := 4) (by kernel_rfl) started (by kernel_rfl) Try.func3
    (ChangeSpec.witness6 (enc := enc) (C := Try.checked) false ⟨#[], #[.slice none 0 0, .slice none 0 0, .slice none 0 0], []⟩ 8 (by kernel_rfl) (by kernel_rfl) (by kernel_rfl) (by kernel_rfl))
    (by kernel_rfl) (by kernel_rfl) (by kernel_rfl) rfl rfl Try.underlying4 (fun ds hl => by
      match ds, hl with
      | [_, _, _], _ => rfl) calls_GasBounds

theorem gasBounds_holds : Rows.GasBoundsSaid :=
  OpenClaim.holds_of_wide 3 Try.f3 rfl rfl rfl rfl rfl rfl rfl ⟨rfl, rfl, rfl, rfl, rfl⟩ rfl rfl rfl rfl rfl (by kernel_rfl) Try.func3 (by kernel_rfl)
    (of_decide_eq_true (by kernel_rfl)) (by unfold Func.isWrapper; first | (rw [if_pos (by decide +kernel)]; kernel_rfl) | (rw [if_neg (by decide +kernel)]; exact ⟨rfl, rfl⟩))
    (fun os started H enc _ => lifted_GasBounds os started H enc)
#print axioms gasBounds_holds
end Go.Proofs.Yticjalhfpjlbdaa
