/- FeederChecks: for every input the law returns true, and each argument reads as it did. Without conditions. -/
import Derived.Test.YtecbhhmfeldepaaRows
import Derived.Test.YtecbhhmfeldepaaL18FeederChecksW3
import Derived.Test.YtecbhhmfeldepaaPQ
import Derived.Test.YtecbhhmfeldepaaAmlZ
import Derived.WalkKit
import Derived.ProofKit
import Derived.OpenShut
import Derived.Below
namespace Go.Proofs.Ytecbhhmfeldepaa
open Go Go.Aml Go.L Go.ChangeShapes Go.WideShapes Go.ChangeAt Go.RowKit
set_option linter.unusedVariables false

theorem ty_5 : TyOk Try.prog 5 (fun x : Int => [.int .u8 x]) (In .u8) := ty_int (by kernel_rfl)
theorem ty_22 : TyOk Try.prog 22 (fun x : List Int => [.vs 1 (List.map (PV.int .u8) x)]) (InL (In .u8)) := ty_slice (f := (PV.int .u8)) (e := 5) (ag := false) (by kernel_rfl) (by kernel_rfl) (by kernel_rfl) ty_5 (fun _ => rfl)
theorem ty_3 : TyOk Try.prog 3 (fun x : Int => [.int .i64 x]) (In .i64) := ty_int (by kernel_rfl)
theorem ty_4 : TyOk Try.prog 4 (fun x : Bool => [.bool x]) (fun _ => True) := ty_bool (by kernel_rfl)
theorem ty_36 : TyOk Try.prog 36 (fun x : T_Switch => [.int .i64 x.Above, .int .i64 x.Since, .int .i64 x.Shown, .bool x.Closed, .bool x.Late]) T_Switch.Wf := by
  intro p hp
  obtain ⟨ps0, rfl, g0⟩ := tp_parts (ts := [3, 3, 3, 4, 4]) (by kernel_rfl) hp
  obtain ⟨p0, ps1, rfl, h0, g1⟩ := tps_cons g0
  obtain ⟨x0, rfl, w0⟩ := ty_3 p0 h0
  obtain ⟨p1, ps2, rfl, h1, g2⟩ := tps_cons g1
  obtain ⟨x1, rfl, w1⟩ := ty_3 p1 h1
  obtain ⟨p2, ps3, rfl, h2, g3⟩ := tps_cons g2
  obtain ⟨x2, rfl, w2⟩ := ty_3 p2 h2
  obtain ⟨p3, ps4, rfl, h3, g4⟩ := tps_cons g3
  obtain ⟨x3, rfl, w3⟩ := ty_4 p3 h3
  obtain ⟨p4, ps5, rfl, h4, g5⟩ := tps_cons g4
  obtain ⟨x4, rfl, w4⟩ := ty_4 p4 h4
  obtain rfl := tps_nil g5
  exact ⟨⟨x0, x1, x2, x3, x4⟩, rfl, ⟨w0, w1, w2, w3, w4, trivial⟩⟩
theorem ty_25 : TyOk Try.prog 25 (fun x : List T_Switch => [.vs 5 (List.map T_Switch.enc x)]) (InL T_Switch.Wf) := ty_slice (f := T_Switch.enc) (e := 36) (ag := true) (by kernel_rfl) (by kernel_rfl) (by kernel_rfl) ty_36 (fun _ => rfl)
theorem ty_26 : TyOk Try.prog 26 (fun x : List Int => [.vs 1 (List.map (PV.int .i64) x)]) (InL (In .i64)) := ty_slice (f := (PV.int .i64)) (e := 3) (ag := false) (by kernel_rfl) (by kernel_rfl) (by kernel_rfl) ty_3 (fun _ => rfl)
theorem ty_28 : TyOk Try.prog 28 (fun x : T_Feeder => [.vs 5 (List.map T_Switch.enc x.Switches), .vs 1 (List.map (PV.int .i64) x.Zones), .int .i64 x.Reply]) T_Feeder.Wf := by
  intro p hp
  obtain ⟨ps0, rfl, g0⟩ := tp_parts (ts := [25, 26, 3]) (by kernel_rfl) hp
  obtain ⟨p0, ps1, rfl, h0, g1⟩ := tps_cons g0
  obtain ⟨x0, rfl, w0⟩ := ty_25 p0 h0
  obtain ⟨p1, ps2, rfl, h1, g2⟩ := tps_cons g1
  obtain ⟨x1, rfl, w1⟩ := ty_26 p1 h1
  obtain ⟨p2, ps3, rfl, h2, g3⟩ := tps_cons g2
  obtain ⟨x2, rfl, w2⟩ := ty_3 p2 h2
  obtain rfl := tps_nil g3
  exact ⟨⟨x0, x1, x2⟩, rfl, ⟨w0, w1, w2, trivial⟩⟩

set_option maxRecDepth 100000 in
theorem calls_FeederChecks (pcs0 : List PV) (hT0 : Typed Try.prog [22, 28, 3, 3, 3] pcs0) : VCalls Try.prog 5 pcs0 [] fun r _ => r = .bool true := by
  obtain ⟨c0, pcs1, q0, rfl, h0, rfl, hT1⟩ := typed_cons hT0
  obtain ⟨p0, rfl, w0⟩ := ty_22 q0 h0
  obtain ⟨c1, pcs2, q1, rfl, h1, rfl, hT2⟩ := typed_cons hT1
  obtain ⟨p1, rfl, w1⟩ := ty_28 q1 h1
  obtain ⟨c2, pcs3, q2, rfl, h2, rfl, hT3⟩ := typed_cons hT2
  obtain ⟨p2, rfl, w2⟩ := ty_3 q2 h2
  obtain ⟨c3, pcs4, q3, rfl, h3, rfl, hT4⟩ := typed_cons hT3
  obtain ⟨p3, rfl, w3⟩ := ty_3 q3 h3
  obtain ⟨c4, pcs5, q4, rfl, h4, rfl, hT5⟩ := typed_cons hT4
  obtain ⟨p4, rfl, w4⟩ := ty_3 q4 h4
  obtain rfl := typed_nil hT5
  have h := (F_law18_FeederChecks_ok (law_FeederChecks p0 w0 p1 w1 p2 w2 p3 w3 p4 w4) []).mono fun r low' h => h.1
  have e : ([mkE (tAgg Try.prog 22) ((fun x : List Int => [.vs 1 (List.map (PV.int .u8) x)]) p0), mkE (tAgg Try.prog 28) ((fun x : T_Feeder => [.vs 5 (List.map T_Switch.enc x.Switches), .vs 1 (List.map (PV.int .i64) x.Zones), .int .i64 x.Reply]) p1), mkE (tAgg Try.prog 3) ((fun x : Int => [.int .i64 x]) p2), mkE (tAgg Try.prog 3) ((fun x : Int => [.int .i64 x]) p3), mkE (tAgg Try.prog 3) ((fun x : Int => [.int .i64 x]) p4)] : List PV) = [.vs 1 (List.map (PV.int .u8) p0), .agg [.vs 5 (List.map T_Switch.enc p1.Switches), .vs 1 (List.map (PV.int .i64) p1.Zones), .int .i64 p1.Reply], .int .i64 p2, .int .i64 p3, .int .i64 p4] := by
    rw [show tAgg Try.prog 22 = some false from by kernel_rfl, show tAgg Try.prog 28 = some true from by kernel_rfl, show tAgg Try.prog 3 = some false from by kernel_rfl]
    rfl
  rw [e]
  exact h

set_option maxRecDepth 100000 in
theorem lifted_FeederChecks (os : Os) (started : os.Started) (H : Type) (enc : TypeId × Value → H) :
    ReturnsInHanded {} Try.checked os 5 .any (Rows.feederChecksSpec.pre6 enc Try.prog Try.f5 Rows.feederChecksRow.domain false) (Rows.feederChecksSpec.post enc Try.prog Try.f5 false true false false) :=
  law_lifted (C := Try.checked) (tb := 4) (by kernel_rfl) started (by kernel_rfl) Try.func5
    (ChangeSpec.witness6 (enc := enc) (C := Try.checked) false ⟨#[], #[.slice none 0 0, .agg #[.slice none 0 0, .slice none 0 0, .int .i64 0], .int .i64 0, .int .i64 0, .int .i64 0], []⟩ 8 (by kernel_rfl) (by kernel_rfl) (by kernel_rfl) (by kernel_rfl))
    (by kernel_rfl) (by kernel_rfl) (by kernel_rfl) rfl rfl Try.underlying4 (fun ds hl => by
      match ds, hl with
      | [_, _, _, _, _], _ => rfl) calls_FeederChecks

theorem feederChecks_holds : Rows.FeederChecksSaid :=
  OpenClaim.holds_of_wide 5 Try.f5 rfl rfl rfl rfl rfl rfl rfl ⟨rfl, rfl, rfl, rfl, rfl⟩ rfl rfl rfl rfl rfl (by kernel_rfl) Try.func5 (by kernel_rfl)
    (of_decide_eq_true (by kernel_rfl)) (by unfold Func.isWrapper; first | (rw [if_pos (by decide +kernel)]; kernel_rfl) | (rw [if_neg (by decide +kernel)]; exact ⟨rfl, rfl⟩))
    (fun os started H enc _ => lifted_FeederChecks os started H enc)
#print axioms feederChecks_holds
end Go.Proofs.Ytecbhhmfeldepaa
