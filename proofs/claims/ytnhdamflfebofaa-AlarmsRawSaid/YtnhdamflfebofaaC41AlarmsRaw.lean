/- AlarmsRaw: for every input the law returns true, and each argument reads as it did. Without conditions. -/
import Derived.Test.YtnhdamflfebofaaRows
import Derived.Test.YtnhdamflfebofaaL41AlarmsRawW3
import Derived.Test.YtnhdamflfebofaaPQ
import Derived.Test.YtnhdamflfebofaaAmlZ
import Derived.WalkKit
import Derived.ProofKit
import Derived.OpenShut
import Derived.Below
namespace Go.Proofs.Ytnhdamflfebofaa
open Go Go.Aml Go.L Go.ChangeShapes Go.WideShapes Go.ChangeAt Go.RowKit
set_option linter.unusedVariables false

theorem ty_3 : TyOk Try.prog 3 (fun x : Int => [.int .i64 x]) (In .i64) := ty_int (by kernel_rfl)
theorem ty_4 : TyOk Try.prog 4 (fun x : Bool => [.bool x]) (fun _ => True) := ty_bool (by kernel_rfl)
theorem ty_32 : TyOk Try.prog 32 (fun x : T_Alarm => [.int .i64 x.Kind, .int .i64 x.Subject, .int .i64 x.Priority, .int .i64 x.Raised, .int .i64 x.Ended, .bool x.Active, .bool x.Acked, .int .i64 x.Hidden, .int .i64 x.Count]) T_Alarm.Wf := by
  intro p hp
  obtain ⟨ps0, rfl, g0⟩ := tp_parts (ts := [3, 3, 3, 3, 3, 4, 4, 3, 3]) (by kernel_rfl) hp
  obtain ⟨p0, ps1, rfl, h0, g1⟩ := tps_cons g0
  obtain ⟨x0, rfl, w0⟩ := ty_3 p0 h0
  obtain ⟨p1, ps2, rfl, h1, g2⟩ := tps_cons g1
  obtain ⟨x1, rfl, w1⟩ := ty_3 p1 h1
  obtain ⟨p2, ps3, rfl, h2, g3⟩ := tps_cons g2
  obtain ⟨x2, rfl, w2⟩ := ty_3 p2 h2
  obtain ⟨p3, ps4, rfl, h3, g4⟩ := tps_cons g3
  obtain ⟨x3, rfl, w3⟩ := ty_3 p3 h3
  obtain ⟨p4, ps5, rfl, h4, g5⟩ := tps_cons g4
  obtain ⟨x4, rfl, w4⟩ := ty_3 p4 h4
  obtain ⟨p5, ps6, rfl, h5, g6⟩ := tps_cons g5
  obtain ⟨x5, rfl, w5⟩ := ty_4 p5 h5
  obtain ⟨p6, ps7, rfl, h6, g7⟩ := tps_cons g6
  obtain ⟨x6, rfl, w6⟩ := ty_4 p6 h6
  obtain ⟨p7, ps8, rfl, h7, g8⟩ := tps_cons g7
  obtain ⟨x7, rfl, w7⟩ := ty_3 p7 h7
  obtain ⟨p8, ps9, rfl, h8, g9⟩ := tps_cons g8
  obtain ⟨x8, rfl, w8⟩ := ty_3 p8 h8
  obtain rfl := tps_nil g9
  exact ⟨⟨x0, x1, x2, x3, x4, x5, x6, x7, x8⟩, rfl, ⟨w0, w1, w2, w3, w4, w5, w6, w7, w8, trivial⟩⟩
theorem ty_27 : TyOk Try.prog 27 (fun x : List T_Alarm => [.vs 9 (List.map T_Alarm.enc x)]) (InL T_Alarm.Wf) := ty_slice (f := T_Alarm.enc) (e := 32) (ag := true) (by kernel_rfl) (by kernel_rfl) (by kernel_rfl) ty_32 (fun _ => rfl)
theorem ty_39 : TyOk Try.prog 39 (fun x : A4_Int => [.int .i64 x.a0, .int .i64 x.a1, .int .i64 x.a2, .int .i64 x.a3]) A4_Int.Wf := by
  intro p hp
  obtain ⟨ps0, rfl, g0⟩ := tp_parts (ts := [3, 3, 3, 3]) (by kernel_rfl) hp
  obtain ⟨p0, ps1, rfl, h0, g1⟩ := tps_cons g0
  obtain ⟨x0, rfl, w0⟩ := ty_3 p0 h0
  obtain ⟨p1, ps2, rfl, h1, g2⟩ := tps_cons g1
  obtain ⟨x1, rfl, w1⟩ := ty_3 p1 h1
  obtain ⟨p2, ps3, rfl, h2, g3⟩ := tps_cons g2
  obtain ⟨x2, rfl, w2⟩ := ty_3 p2 h2
  obtain ⟨p3, ps4, rfl, h3, g4⟩ := tps_cons g3
  obtain ⟨x3, rfl, w3⟩ := ty_3 p3 h3
  obtain rfl := tps_nil g4
  exact ⟨⟨x0, x1, x2, x3⟩, rfl, ⟨w0, w1, w2, w3, trivial⟩⟩

set_option maxRecDepth 100000 in
theorem calls_AlarmsRaw (pcs0 : List PV) (hT0 : Typed Try.prog [27, 39] pcs0) : VCalls Try.prog 5 pcs0 [] fun r _ => r = .bool true := by
  obtain ⟨c0, pcs1, q0, rfl, h0, rfl, hT1⟩ := typed_cons hT0
  obtain ⟨p0, rfl, w0⟩ := ty_27 q0 h0
  obtain ⟨c1, pcs2, q1, rfl, h1, rfl, hT2⟩ := typed_cons hT1
  obtain ⟨p1, rfl, w1⟩ := ty_39 q1 h1
  obtain rfl := typed_nil hT2
  have h := (F_law41_AlarmsRaw_ok (law_AlarmsRaw p0 w0 p1 w1) []).mono fun r low' h => h.1
  have e : ([mkE (tAgg Try.prog 27) ((fun x : List T_Alarm => [.vs 9 (List.map T_Alarm.enc x)]) p0), mkE (tAgg Try.prog 39) ((fun x : A4_Int => [.int .i64 x.a0, .int .i64 x.a1, .int .i64 x.a2, .int .i64 x.a3]) p1)] : List PV) = [.vs 9 (List.map T_Alarm.enc p0), .agg [.int .i64 p1.a0, .int .i64 p1.a1, .int .i64 p1.a2, .int .i64 p1.a3]] := by
    rw [show tAgg Try.prog 27 = some false from by kernel_rfl, show tAgg Try.prog 39 = some true from by kernel_rfl]
    rfl
  rw [e]
  exact h

set_option maxRecDepth 100000 in
theorem lifted_AlarmsRaw (os : Os) (started : os.Started) (H : Type) (enc : TypeId × Value → H) :
    ReturnsInHanded {} Try.checked os 5 .any (Rows.alarmsRawSpec.pre6 enc Try.prog Try.f5 Rows.alarmsRawRow.domain false) (Rows.alarmsRawSpec.post enc Try.prog Try.f5 false true false false) :=
  law_lifted (C := Try.checked) (tb := 4) (by kernel_rfl) started (by kernel_rfl) Try.func5
    (ChangeSpec.witness6 (enc := enc) (C := Try.checked) false ⟨#[], #[.slice none 0 0, .agg #[.int .i64 0, .int .i64 0, .int .i64 0, .int .i64 0]], []⟩ 8 (by kernel_rfl) (by kernel_rfl) (by kernel_rfl) (by kernel_rfl))
    (by kernel_rfl) (by kernel_rfl) (by kernel_rfl) rfl rfl Try.underlying4 (fun ds hl => by
      match ds, hl with
      | [_, _], _ => rfl) calls_AlarmsRaw

theorem alarmsRaw_holds : Rows.AlarmsRawSaid :=
  OpenClaim.holds_of_wide 5 Try.f5 rfl rfl rfl rfl rfl rfl rfl ⟨rfl, rfl, rfl, rfl, rfl⟩ rfl rfl rfl rfl rfl (by kernel_rfl) Try.func5 (by kernel_rfl)
    (of_decide_eq_true (by kernel_rfl)) (by unfold Func.isWrapper; first | (rw [if_pos (by decide +kernel)]; kernel_rfl) | (rw [if_neg (by decide +kernel)]; exact ⟨rfl, rfl⟩))
    (fun os started H enc _ => lifted_AlarmsRaw os started H enc)
#print axioms alarmsRaw_holds
end Go.Proofs.Ytnhdamflfebofaa
