/- RecirculateMixes: for every input the law returns true, and each argument reads as it did. Without conditions. -/
import Derived.Test.YtaedmgkcmbhicaaRows
import Derived.Test.YtaedmgkcmbhicaaL14RecirculateMixesW4
import Derived.Test.YtaedmgkcmbhicaaPQ
import Derived.Test.YtaedmgkcmbhicaaAmlZ
import Derived.WalkKit
import Derived.ProofKit
import Derived.OpenShut
import Derived.Below
namespace Go.Proofs.Ytaedmgkcmbhicaa
open Go Go.Aml Go.L Go.ChangeShapes Go.WideShapes Go.ChangeAt Go.RowKit
set_option linter.unusedVariables false

theorem ty_5 : TyOk Try.prog 5 (fun x : Int => [.int .u8 x]) (In .u8) := ty_int (by kernel_rfl)
theorem ty_22 : TyOk Try.prog 22 (fun x : List Int => [.vs 1 (List.map (PV.int .u8) x)]) (InL (In .u8)) := ty_slice (f := (PV.int .u8)) (e := 5) (ag := false) (by kernel_rfl) (by kernel_rfl) (by kernel_rfl) ty_5 (fun _ => rfl)
theorem ty_3 : TyOk Try.prog 3 (fun x : Int => [.int .i64 x]) (In .i64) := ty_int (by kernel_rfl)
theorem ty_44 : TyOk Try.prog 44 (fun x : T_Span => [.int .i64 x.Low, .int .i64 x.High]) T_Span.Wf := by
  intro p hp
  obtain ⟨ps0, rfl, g0⟩ := tp_parts (ts := [3, 3]) (by kernel_rfl) hp
  obtain ⟨p0, ps1, rfl, h0, g1⟩ := tps_cons g0
  obtain ⟨x0, rfl, w0⟩ := ty_3 p0 h0
  obtain ⟨p1, ps2, rfl, h1, g2⟩ := tps_cons g1
  obtain ⟨x1, rfl, w1⟩ := ty_3 p1 h1
  obtain rfl := tps_nil g2
  exact ⟨⟨x0, x1⟩, rfl, ⟨w0, w1, trivial⟩⟩
theorem ty_23 : TyOk Try.prog 23 (fun x : List T_Span => [.vs 2 (List.map T_Span.enc x)]) (InL T_Span.Wf) := ty_slice (f := T_Span.enc) (e := 44) (ag := true) (by kernel_rfl) (by kernel_rfl) (by kernel_rfl) ty_44 (fun _ => rfl)
theorem ty_4 : TyOk Try.prog 4 (fun x : Bool => [.bool x]) (fun _ => True) := ty_bool (by kernel_rfl)
theorem ty_48 : TyOk Try.prog 48 (fun x : T_Place => [.int .i64 x.Height, .bool x.Surface]) T_Place.Wf := by
  intro p hp
  obtain ⟨ps0, rfl, g0⟩ := tp_parts (ts := [3, 4]) (by kernel_rfl) hp
  obtain ⟨p0, ps1, rfl, h0, g1⟩ := tps_cons g0
  obtain ⟨x0, rfl, w0⟩ := ty_3 p0 h0
  obtain ⟨p1, ps2, rfl, h1, g2⟩ := tps_cons g1
  obtain ⟨x1, rfl, w1⟩ := ty_4 p1 h1
  obtain rfl := tps_nil g2
  exact ⟨⟨x0, x1⟩, rfl, ⟨w0, w1, trivial⟩⟩
theorem ty_24 : TyOk Try.prog 24 (fun x : List T_Place => [.vs 2 (List.map T_Place.enc x)]) (InL T_Place.Wf) := ty_slice (f := T_Place.enc) (e := 48) (ag := true) (by kernel_rfl) (by kernel_rfl) (by kernel_rfl) ty_48 (fun _ => rfl)
theorem ty_46 : TyOk Try.prog 46 (fun x : T_Road => [.int .i64 x.From, .int .i64 x.To, .int .i64 x.Length, .int .i64 x.Area, .bool x.Walk, .bool x.Closed, .int .i64 x.Rest.Low, .int .i64 x.Rest.High, .int .i64 x.Lift.Low, .int .i64 x.Lift.High]) T_Road.Wf := by
  intro p hp
  obtain ⟨ps0, rfl, g0⟩ := tp_parts (ts := [3, 3, 3, 3, 4, 4, 44, 44]) (by kernel_rfl) hp
  obtain ⟨p0, ps1, rfl, h0, g1⟩ := tps_cons g0
  obtain ⟨x0, rfl, w0⟩ := ty_3 p0 h0
  obtain ⟨p1, ps2, rfl, h1, g2⟩ := tps_cons g1
  obtain ⟨x1, rfl, w1⟩ := ty_3 p1 h1
  obtain ⟨p2, ps3, rfl, h2, g3⟩ := tps_cons g2
  obtain ⟨x2, rfl, w2⟩ := ty_3 p2 h2
  obtain ⟨p3, ps4, rfl, h3, g4⟩ := tps_cons g3
  obtain ⟨x3, rfl, w3⟩ := ty_3 p3 h3
  obtain ⟨p4, ps5, rfl, h4, g5⟩ := tps_cons g4
  obtain ⟨x4, rfl, w4⟩ := ty_4 p4 h4
  obtain ⟨p5, ps6, rfl, h5, g6⟩ := tps_cons g5
  obtain ⟨x5, rfl, w5⟩ := ty_4 p5 h5
  obtain ⟨p6, ps7, rfl, h6, g7⟩ := tps_cons g6
  obtain ⟨x6, rfl, w6⟩ := ty_44 p6 h6
  obtain ⟨p7, ps8, rfl, h7, g8⟩ := tps_cons g7
  obtain ⟨x7, rfl, w7⟩ := ty_44 p7 h7
  obtain rfl := tps_nil g8
  exact ⟨⟨x0, x1, x2, x3, x4, x5, x6, x7⟩, rfl, ⟨w0, w1, w2, w3, w4, w5, w6, w7, trivial⟩⟩
theorem ty_25 : TyOk Try.prog 25 (fun x : List T_Road => [.vs 10 (List.map T_Road.enc x)]) (InL T_Road.Wf) := ty_slice (f := T_Road.enc) (e := 46) (ag := true) (by kernel_rfl) (by kernel_rfl) (by kernel_rfl) ty_46 (fun _ => rfl)
theorem ty_27 : TyOk Try.prog 27 (fun x : T_Mine => [.vs 2 (List.map T_Place.enc x.Places), .vs 10 (List.map T_Road.enc x.Roads)]) T_Mine.Wf := by
  intro p hp
  obtain ⟨ps0, rfl, g0⟩ := tp_parts (ts := [24, 25]) (by kernel_rfl) hp
  obtain ⟨p0, ps1, rfl, h0, g1⟩ := tps_cons g0
  obtain ⟨x0, rfl, w0⟩ := ty_24 p0 h0
  obtain ⟨p1, ps2, rfl, h1, g2⟩ := tps_cons g1
  obtain ⟨x1, rfl, w1⟩ := ty_25 p1 h1
  obtain rfl := tps_nil g2
  exact ⟨⟨x0, x1⟩, rfl, ⟨w0, w1, trivial⟩⟩

set_option maxRecDepth 100000 in
theorem calls_RecirculateMixes (pcs0 : List PV) (hT0 : Typed Try.prog [22, 23, 27] pcs0) : VCalls Try.prog 7 pcs0 [] fun r _ => r = .bool true := by
  obtain ⟨c0, pcs1, q0, rfl, h0, rfl, hT1⟩ := typed_cons hT0
  obtain ⟨p0, rfl, w0⟩ := ty_22 q0 h0
  obtain ⟨c1, pcs2, q1, rfl, h1, rfl, hT2⟩ := typed_cons hT1
  obtain ⟨p1, rfl, w1⟩ := ty_23 q1 h1
  obtain ⟨c2, pcs3, q2, rfl, h2, rfl, hT3⟩ := typed_cons hT2
  obtain ⟨p2, rfl, w2⟩ := ty_27 q2 h2
  obtain rfl := typed_nil hT3
  have h := (F_law14_RecirculateMixes_ok (law_RecirculateMixes p0 w0 p1 w1 p2 w2) []).mono fun r low' h => h.1
  have e : ([mkE (tAgg Try.prog 22) ((fun x : List Int => [.vs 1 (List.map (PV.int .u8) x)]) p0), mkE (tAgg Try.prog 23) ((fun x : List T_Span => [.vs 2 (List.map T_Span.enc x)]) p1), mkE (tAgg Try.prog 27) ((fun x : T_Mine => [.vs 2 (List.map T_Place.enc x.Places), .vs 10 (List.map T_Road.enc x.Roads)]) p2)] : List PV) = [.vs 1 (List.map (PV.int .u8) p0), .vs 2 (List.map T_Span.enc p1), .agg [.vs 2 (List.map T_Place.enc p2.Places), .vs 10 (List.map T_Road.enc p2.Roads)]] := by
    rw [show tAgg Try.prog 22 = some false from by kernel_rfl, show tAgg Try.prog 23 = some false from by kernel_rfl, show tAgg Try.prog 27 = some true from by kernel_rfl]
    rfl
  rw [e]
  exact h

set_option maxRecDepth 100000 in
theorem lifted_RecirculateMixes (os : Os) (started : os.Started) (H : Type) (enc : TypeId × Value → H) :
    ReturnsInHanded {} Try.checked os 7 .any (Rows.recirculateMixesSpec.pre6 enc Try.prog Try.f7 Rows.recirculateMixesRow.domain false) (Rows.recirculateMixesSpec.post enc Try.prog Try.f7 false true false false) :=
  law_lifted (C := Try.checked) (tb := 4) (by kernel_rfl) started (by kernel_rfl) Try.func7
    (ChangeSpec.witness6 (enc := enc) (C := Try.checked) false ⟨#[], #[.slice none 0 0, .slice none 0 0, .agg #[.slice none 0 0, .slice none 0 0]], []⟩ 8 (by kernel_rfl) (by kernel_rfl) (by kernel_rfl) (by kernel_rfl))
    (by kernel_rfl) (by kernel_rfl) (by kernel_rfl) rfl rfl Try.underlying4 (fun ds hl => by
      match ds, hl with
      | [_, _, _], _ => rfl) calls_RecirculateMixes

theorem recirculateMixes_holds : Rows.RecirculateMixesSaid :=
  OpenClaim.holds_of_wide 7 Try.f7 rfl rfl rfl rfl rfl rfl rfl ⟨rfl, rfl, rfl, rfl, rfl⟩ rfl rfl rfl rfl rfl (by kernel_rfl) Try.func7 (by kernel_rfl)
    (of_decide_eq_true (by kernel_rfl)) (by unfold Func.isWrapper; first | (rw [if_pos (by decide +kernel)]; kernel_rfl) | (rw [if_neg (by decide +kernel)]; exact ⟨rfl, rfl⟩))
    (fun os started H enc _ => lifted_RecirculateMixes os started H enc)
#print axioms recirculateMixes_holds
end Go.Proofs.Ytaedmgkcmbhicaa
