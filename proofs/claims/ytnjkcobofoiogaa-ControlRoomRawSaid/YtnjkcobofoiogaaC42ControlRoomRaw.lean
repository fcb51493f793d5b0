/- ControlRoomRaw: for every input the law returns true, and each argument reads as it did. Without conditions. -/
import Derived.Test.YtnjkcobofoiogaaRows
import Derived.Test.YtnjkcobofoiogaaL42ControlRoomRawW4
import Derived.Test.YtnjkcobofoiogaaPQ
import Derived.Test.YtnjkcobofoiogaaAmlZ
import Derived.WalkKit
import Derived.ProofKit
import Derived.OpenShut
import Derived.Below
namespace Go.Proofs.Ytnjkcobofoiogaa
open Go Go.Aml Go.L Go.ChangeShapes Go.WideShapes Go.ChangeAt Go.RowKit
set_option linter.unusedVariables false

theorem ty_5 : TyOk Try.prog 5 (fun x : Int => [.int .u8 x]) (In .u8) := ty_int (by kernel_rfl)
theorem ty_38 : TyOk Try.prog 38 (fun x : List Int => [.vs 1 (List.map (PV.int .u8) x)]) (InL (In .u8)) := ty_slice (f := (PV.int .u8)) (e := 5) (ag := false) (by kernel_rfl) (by kernel_rfl) (by kernel_rfl) ty_5 (fun _ => rfl)
theorem ty_49 : TyOk Try.prog 49 (fun x : T_Disk => [.vs 1 (List.map (PV.int .u8) x.Safe), .vs 1 (List.map (PV.int .u8) x.Loose)]) T_Disk.Wf := by
  intro p hp
  obtain ⟨ps0, rfl, g0⟩ := tp_parts (ts := [38, 38]) (by kernel_rfl) hp
  obtain ⟨p0, ps1, rfl, h0, g1⟩ := tps_cons g0
  obtain ⟨x0, rfl, w0⟩ := ty_38 p0 h0
  obtain ⟨p1, ps2, rfl, h1, g2⟩ := tps_cons g1
  obtain ⟨x1, rfl, w1⟩ := ty_38 p1 h1
  obtain rfl := tps_nil g2
  exact ⟨⟨x0, x1⟩, rfl, ⟨w0, w1, trivial⟩⟩
theorem ty_3 : TyOk Try.prog 3 (fun x : Int => [.int .i64 x]) (In .i64) := ty_int (by kernel_rfl)
theorem ty_32 : TyOk Try.prog 32 (fun x : T_Record => [.int .i64 x.Kind, .int .i64 x.Subject, .int .i64 x.Value, .int .i64 x.Time]) T_Record.Wf := by
  intro p hp
  obtain ⟨ps0, rfl, g0⟩ := tp_parts (ts := [3, 3, 3, 3]) (by kernel_rfl) hp
  obtain ⟨p0, ps1, rfl, h0, g1⟩ := tps_cons g0
  obtain ⟨x0, rfl, w0⟩ := ty_3 p0 h0
  obtain ⟨p1, ps2, rfl, h1, g2⟩ := tps_cons g1
  obtain ⟨x1, rfl, w1⟩ := ty_3 p1 h1
  obtain ⟨p2, ps3, rfl, h2, g3⟩ := tps_cons g2
  obtain ⟨x2, rfl, w2⟩ := ty_3 p2 h2
  obtain ⟨p3, ps4, rfl, h3, g4⟩ := tps_cons g3
  obtain ⟨x3, rfl, w3⟩ := ty_3 p3 h3
  obtain rfl := tps_nil g4
  exact ⟨⟨x0, x1, x2, x3⟩, rfl, ⟨w0, w1, w2, w3, trivial⟩⟩
theorem ty_27 : TyOk Try.prog 27 (fun x : List T_Record => [.vs 4 (List.map T_Record.enc x)]) (InL T_Record.Wf) := ty_slice (f := T_Record.enc) (e := 32) (ag := true) (by kernel_rfl) (by kernel_rfl) (by kernel_rfl) ty_32 (fun _ => rfl)

set_option maxRecDepth 100000 in
theorem calls_ControlRoomRaw (pcs0 : List PV) (hT0 : Typed Try.prog [49, 27, 3] pcs0) : VCalls Try.prog 5 pcs0 [] fun r _ => r = .bool true := by
  obtain ⟨c0, pcs1, q0, rfl, h0, rfl, hT1⟩ := typed_cons hT0
  obtain ⟨p0, rfl, w0⟩ := ty_49 q0 h0
  obtain ⟨c1, pcs2, q1, rfl, h1, rfl, hT2⟩ := typed_cons hT1
  obtain ⟨p1, rfl, w1⟩ := ty_27 q1 h1
  obtain ⟨c2, pcs3, q2, rfl, h2, rfl, hT3⟩ := typed_cons hT2
  obtain ⟨p2, rfl, w2⟩ := ty_3 q2 h2
  obtain rfl := typed_nil hT3
  have h := (F_law42_ControlRoomRaw_ok (law_ControlRoomRaw p0 w0 p1 w1 p2 w2) []).mono fun r low' h => h.1
  have e : ([mkE (tAgg Try.prog 49) ((fun x : T_Disk => [.vs 1 (List.map (PV.int .u8) x.Safe), .vs 1 (List.map (PV.int .u8) x.Loose)]) p0), mkE (tAgg Try.prog 27) ((fun x : List T_Record => [.vs 4 (List.map T_Record.enc x)]) p1), mkE (tAgg Try.prog 3) ((fun x : Int => [.int .i64 x]) p2)] : List PV) = [.agg [.vs 1 (List.map (PV.int .u8) p0.Safe), .vs 1 (List.map (PV.int .u8) p0.Loose)], .vs 4 (List.map T_Record.enc p1), .int .i64 p2] := by
    rw [show tAgg Try.prog 49 = some true from by kernel_rfl, show tAgg Try.prog 27 = some false from by kernel_rfl, show tAgg Try.prog 3 = some false from by kernel_rfl]
    rfl
  rw [e]
  exact h

set_option maxRecDepth 100000 in
theorem lifted_ControlRoomRaw (os : Os) (started : os.Started) (H : Type) (enc : TypeId × Value → H) :
    ReturnsInHanded {} Try.checked os 5 .any (Rows.controlRoomRawSpec.pre6 enc Try.prog Try.f5 Rows.controlRoomRawRow.domain false) (Rows.controlRoomRawSpec.post enc Try.prog Try.f5 false true false false) :=
  law_lifted (C := Try.checked) (tb := 4) (by kernel_rfl) started (by kernel_rfl) Try.func5
    (ChangeSpec.witness6 (enc := enc) (C := Try.checked) false ⟨#[], #[.agg #[.slice none 0 0, .slice none 0 0], .slice none 0 0, .int .i64 0], []⟩ 8 (by kernel_rfl) (by kernel_rfl) (by kernel_rfl) (by kernel_rfl))
    (by kernel_rfl) (by kernel_rfl) (by kernel_rfl) rfl rfl Try.underlying4 (fun ds hl => by
      match ds, hl with
      | [_, _, _], _ => rfl) calls_ControlRoomRaw

theorem controlRoomRaw_holds : Rows.ControlRoomRawSaid :=
  OpenClaim.holds_of_wide 5 Try.f5 rfl rfl rfl rfl rfl rfl rfl ⟨rfl, rfl, rfl, rfl, rfl⟩ rfl rfl rfl rfl rfl (by kernel_rfl) Try.func5 (by kernel_rfl)
    (of_decide_eq_true (by kernel_rfl)) (by unfold Func.isWrapper; first | (rw [if_pos (by decide +kernel)]; kernel_rfl) | (rw [if_neg (by decide +kernel)]; exact ⟨rfl, rfl⟩))
    (fun os started H enc _ => lifted_ControlRoomRaw os started H enc)
#print axioms controlRoomRaw_holds
end Go.Proofs.Ytnjkcobofoiogaa
