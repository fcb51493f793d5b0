/- SensorDecodes: for every input the law returns true, and each argument reads as it did. Without conditions. -/
import Derived.Test.YtlkgcbmodajikaaRows
import Derived.Test.YtlkgcbmodajikaaL05W3
import Derived.Test.YtlkgcbmodajikaaP05C
import Derived.Test.YtlkgcbmodajikaaAmlZ
import Derived.WalkKit
import Derived.ProofKit
import Derived.OpenShut
import Derived.Below
namespace Go.Proofs.Ytlkgcbmodajikaa
open Go Go.Aml Go.L Go.ChangeShapes Go.WideShapes Go.ChangeAt Go.RowKit
set_option linter.unusedVariables false

theorem ty_5 : TyOk Try.prog 5 (fun x : Int => [.int .u8 x]) (In .u8) := ty_int (by kernel_rfl)
theorem ty_22 : TyOk Try.prog 22 (fun x : List Int => [.vs 1 (List.map (PV.int .u8) x)]) (InL (In .u8)) := ty_slice (f := (PV.int .u8)) (e := 5) (ag := false) (by kernel_rfl) (by kernel_rfl) (by kernel_rfl) ty_5 (fun _ => rfl)
theorem ty_3 : TyOk Try.prog 3 (fun x : Int => [.int .i64 x]) (In .i64) := ty_int (by kernel_rfl)
theorem ty_24 : TyOk Try.prog 24 (fun x : T_Sensor => [.int .i64 x.Address, .int .i64 x.Kind, .int .i64 x.Target, .int .i64 x.Offset, .int .i64 x.Scale, .int .i64 x.Error, .int .i64 x.Drift, .int .i64 x.Life]) T_Sensor.Wf := by
  intro p hp
  obtain ⟨ps0, rfl, g0⟩ := tp_parts (ts := [3, 3, 3, 3, 3, 3, 3, 3]) (by kernel_rfl) hp
  obtain ⟨p0, ps1, rfl, h0, g1⟩ := tps_cons g0
  obtain ⟨x0, rfl, w0⟩ := ty_3 p0 h0
  obtain ⟨p1, ps2, rfl, h1, g2⟩ := tps_cons g1
  obtain ⟨x1, rfl, w1⟩ := ty_3 p1 h1
  obtain ⟨p2, ps3, rfl, h2, g3⟩ := tps_cons g2
  obtain ⟨x2, rfl, w2⟩ := ty_3 p2 h2
  obtain ⟨p3, ps4, rfl, h3, g4⟩ := tps_cons g3
  obtain ⟨x3, rfl, w3⟩ := ty_3 p3 h3
  obtain ⟨p4, ps5, rfl, h4, g5⟩ := tps_cons g4
  obtain ⟨x4, rfl, w4⟩ := ty_3 p4 h4
  obtain ⟨p5, ps6, rfl, h5, g6⟩ := tps_cons g5
  obtain ⟨x5, rfl, w5⟩ := ty_3 p5 h5
  obtain ⟨p6, ps7, rfl, h6, g7⟩ := tps_cons g6
  obtain ⟨x6, rfl, w6⟩ := ty_3 p6 h6
  obtain ⟨p7, ps8, rfl, h7, g8⟩ := tps_cons g7
  obtain ⟨x7, rfl, w7⟩ := ty_3 p7 h7
  obtain rfl := tps_nil g8
  exact ⟨⟨x0, x1, x2, x3, x4, x5, x6, x7⟩, rfl, ⟨w0, w1, w2, w3, w4, w5, w6, w7, trivial⟩⟩
theorem ty_31 : TyOk Try.prog 31 (fun x : List T_Sensor => [.vs 8 (List.map T_Sensor.enc x)]) (InL T_Sensor.Wf) := ty_slice (f := T_Sensor.enc) (e := 24) (ag := true) (by kernel_rfl) (by kernel_rfl) (by kernel_rfl) ty_24 (fun _ => rfl)
theorem ty_37 : TyOk Try.prog 37 (fun x : T_Frame => [.int .i64 x.Address, .int .i64 x.Kind, .vs 1 (List.map (PV.int .u8) x.Data)]) T_Frame.Wf := by
  intro p hp
  obtain ⟨ps0, rfl, g0⟩ := tp_parts (ts := [3, 3, 22]) (by kernel_rfl) hp
  obtain ⟨p0, ps1, rfl, h0, g1⟩ := tps_cons g0
  obtain ⟨x0, rfl, w0⟩ := ty_3 p0 h0
  obtain ⟨p1, ps2, rfl, h1, g2⟩ := tps_cons g1
  obtain ⟨x1, rfl, w1⟩ := ty_3 p1 h1
  obtain ⟨p2, ps3, rfl, h2, g3⟩ := tps_cons g2
  obtain ⟨x2, rfl, w2⟩ := ty_22 p2 h2
  obtain rfl := tps_nil g3
  exact ⟨⟨x0, x1, x2⟩, rfl, ⟨w0, w1, w2, trivial⟩⟩

theorem calls_SensorDecodes (pcs0 : List PV) (hT0 : Typed Try.prog [22, 31, 37, 3] pcs0) : VCalls Try.prog 5 pcs0 [] fun r _ => r = .bool true := by
  obtain ⟨c0, pcs1, q0, rfl, h0, rfl, hT1⟩ := typed_cons hT0
  obtain ⟨p0, rfl, w0⟩ := ty_22 q0 h0
  obtain ⟨c1, pcs2, q1, rfl, h1, rfl, hT2⟩ := typed_cons hT1
  obtain ⟨p1, rfl, w1⟩ := ty_31 q1 h1
  obtain ⟨c2, pcs3, q2, rfl, h2, rfl, hT3⟩ := typed_cons hT2
  obtain ⟨p2, rfl, w2⟩ := ty_37 q2 h2
  obtain ⟨c3, pcs4, q3, rfl, h3, rfl, hT4⟩ := typed_cons hT3
  obtain ⟨p3, rfl, w3⟩ := ty_3 q3 h3
  obtain rfl := typed_nil hT4
  have h := (F_law05_SensorDecodes_ok (law_SensorDecodes p0 w0 p1 w1 p2 w2 p3 w3) []).mono fun r low' h => h.1
  have e : ([mkE (tAgg Try.prog 22) ((fun x : List Int => [.vs 1 (List.map (PV.int .u8) x)]) p0), mkE (tAgg Try.prog 31) ((fun x : List T_Sensor => [.vs 8 (List.map T_Sensor.enc x)]) p1), mkE (tAgg Try.prog 37) ((fun x : T_Frame => [.int .i64 x.Address, .int .i64 x.Kind, .vs 1 (List.map (PV.int .u8) x.Data)]) p2), mkE (tAgg Try.prog 3) ((fun x : Int => [.int .i64 x]) p3)] : List PV) = [.vs 1 (List.map (PV.int .u8) p0), .vs 8 (List.map T_Sensor.enc p1), .agg [.int .i64 p2.Address, .int .i64 p2.Kind, .vs 1 (List.map (PV.int .u8) p2.Data)], .int .i64 p3] := by
    rw [show tAgg Try.prog 22 = some false from by kernel_rfl, show tAgg Try.prog 31 = some false from by kernel_rfl, show tAgg Try.prog 37 = some true from by kernel_rfl, show tAgg Try.prog 3 = some false from by kernel_rfl]
    rfl
  rw [e]
  exact h

set_option maxRecDepth 100000 in
theorem lifted_SensorDecodes (os : Os) (started : os.Started) (H : Type) (enc : TypeId × Value → H) :
    ReturnsInHanded {} Try.checked os 5 .any (Rows.sensorDecodesSpec.pre6 enc Try.prog Try.f5 Rows.sensorDecodesRow.domain false) (Rows.sensorDecodesSpec.post enc Try.prog Try.f5 false true false false) :=
  law_lifted (C := Try.checked) (tb := 4) (by kernel_rfl) started (by kernel_rfl) Try.func5
    (ChangeSpec.witness6 (enc := enc) (C := Try.checked) false ⟨#[], #[.slice none 0 0, .slice none 0 0, .agg #[.int .i64 0, .int .i64 0, .slice none 0 0], .int .i64 0], []⟩ 8 (by kernel_rfl) (by kernel_rfl) (by kernel_rfl) (by kernel_rfl))
    (by kernel_rfl) (by kernel_rfl) (by kernel_rfl) rfl rfl Try.underlying4 (fun ds hl => by
      match ds, hl with
      | [_, _, _, _], _ => rfl) calls_SensorDecodes

theorem sensorDecodes_holds : Rows.SensorDecodesSaid :=
  OpenClaim.holds_of_wide 5 Try.f5 rfl rfl rfl rfl rfl rfl rfl ⟨rfl, rfl, rfl, rfl, rfl⟩ rfl rfl rfl rfl rfl (by kernel_rfl) Try.func5 (by kernel_rfl)
    (of_decide_eq_true (by kernel_rfl)) (by unfold Func.isWrapper; first | (rw [if_pos (by decide +kernel)]; kernel_rfl) | (rw [if_neg (by decide +kernel)]; exact ⟨rfl, rfl⟩))
    (fun os started H enc _ => lifted_SensorDecodes os started H enc)
#print axioms sensorDecodes_holds
end Go.Proofs.Ytlkgcbmodajikaa
