/- BeltsRaw: for every input the law returns true, and each argument reads as it did. Without conditions. -/
import Derived.Test.YtmomjhbinkmefaaRows
import Derived.Test.YtmomjhbinkmefaaL39BeltsRawW5
import Derived.Test.YtmomjhbinkmefaaP39D
import Derived.Test.YtmomjhbinkmefaaAmlZ
import Derived.WalkKit
import Derived.ProofKit
import Derived.OpenShut
import Derived.Below
namespace Go.Proofs.Ytmomjhbinkmefaa
open Go Go.Aml Go.L Go.ChangeShapes Go.WideShapes Go.ChangeAt Go.RowKit
set_option linter.unusedVariables false

theorem ty_3 : TyOk Try.prog 3 (fun x : Int => [.int .i64 x]) (In .i64) := ty_int (by kernel_rfl)
theorem ty_31 : TyOk Try.prog 31 (fun x : T_Belt => [.int .i64 x.Onto, .int .i64 x.Warn]) T_Belt.Wf := by
  intro p hp
  obtain ⟨ps0, rfl, g0⟩ := tp_parts (ts := [3, 3]) (by kernel_rfl) hp
  obtain ⟨p0, ps1, rfl, h0, g1⟩ := tps_cons g0
  obtain ⟨x0, rfl, w0⟩ := ty_3 p0 h0
  obtain ⟨p1, ps2, rfl, h1, g2⟩ := tps_cons g1
  obtain ⟨x1, rfl, w1⟩ := ty_3 p1 h1
  obtain rfl := tps_nil g2
  exact ⟨⟨x0, x1⟩, rfl, ⟨w0, w1, trivial⟩⟩
theorem ty_27 : TyOk Try.prog 27 (fun x : List T_Belt => [.vs 2 (List.map T_Belt.enc x)]) (InL T_Belt.Wf) := ty_slice (f := T_Belt.enc) (e := 31) (ag := true) (by kernel_rfl) (by kernel_rfl) (by kernel_rfl) ty_31 (fun _ => rfl)
theorem ty_22 : TyOk Try.prog 22 (fun x : List Int => [.vs 1 (List.map (PV.int .i64) x)]) (InL (In .i64)) := ty_slice (f := (PV.int .i64)) (e := 3) (ag := false) (by kernel_rfl) (by kernel_rfl) (by kernel_rfl) ty_3 (fun _ => rfl)
theorem ty_4 : TyOk Try.prog 4 (fun x : Bool => [.bool x]) (fun _ => True) := ty_bool (by kernel_rfl)
theorem ty_32 : TyOk Try.prog 32 (fun x : List Bool => [.vs 1 (List.map PV.bool x)]) (InL (fun _ => True)) := ty_slice (f := PV.bool) (e := 4) (ag := false) (by kernel_rfl) (by kernel_rfl) (by kernel_rfl) ty_4 (fun _ => rfl)
theorem ty_34 : TyOk Try.prog 34 (fun x : T_Line => [.int .i64 x.Time, .vs 1 (List.map (PV.int .i64) x.States), .vs 1 (List.map (PV.int .i64) x.Since), .vs 1 (List.map PV.bool x.Pulled), .vs 1 (List.map PV.bool x.Held)]) T_Line.Wf := by
  intro p hp
  obtain ⟨ps0, rfl, g0⟩ := tp_parts (ts := [3, 22, 22, 32, 32]) (by kernel_rfl) hp
  obtain ⟨p0, ps1, rfl, h0, g1⟩ := tps_cons g0
  obtain ⟨x0, rfl, w0⟩ := ty_3 p0 h0
  obtain ⟨p1, ps2, rfl, h1, g2⟩ := tps_cons g1
  obtain ⟨x1, rfl, w1⟩ := ty_22 p1 h1
  obtain ⟨p2, ps3, rfl, h2, g3⟩ := tps_cons g2
  obtain ⟨x2, rfl, w2⟩ := ty_22 p2 h2
  obtain ⟨p3, ps4, rfl, h3, g4⟩ := tps_cons g3
  obtain ⟨x3, rfl, w3⟩ := ty_32 p3 h3
  obtain ⟨p4, ps5, rfl, h4, g5⟩ := tps_cons g4
  obtain ⟨x4, rfl, w4⟩ := ty_32 p4 h4
  obtain rfl := tps_nil g5
  exact ⟨⟨x0, x1, x2, x3, x4⟩, rfl, ⟨w0, w1, w2, w3, w4, trivial⟩⟩
theorem ty_41 : TyOk Try.prog 41 (fun x : A2_Int => [.int .i64 x.a0, .int .i64 x.a1]) A2_Int.Wf := by
  intro p hp
  obtain ⟨ps0, rfl, g0⟩ := tp_parts (ts := [3, 3]) (by kernel_rfl) hp
  obtain ⟨p0, ps1, rfl, h0, g1⟩ := tps_cons g0
  obtain ⟨x0, rfl, w0⟩ := ty_3 p0 h0
  obtain ⟨p1, ps2, rfl, h1, g2⟩ := tps_cons g1
  obtain ⟨x1, rfl, w1⟩ := ty_3 p1 h1
  obtain rfl := tps_nil g2
  exact ⟨⟨x0, x1⟩, rfl, ⟨w0, w1, trivial⟩⟩

theorem calls_BeltsRaw (pcs0 : List PV) (hT0 : Typed Try.prog [27, 34, 41] pcs0) : VCalls Try.prog 4 pcs0 [] fun r _ => r = .bool true := by
  obtain ⟨c0, pcs1, q0, rfl, h0, rfl, hT1⟩ := typed_cons hT0
  obtain ⟨p0, rfl, w0⟩ := ty_27 q0 h0
  obtain ⟨c1, pcs2, q1, rfl, h1, rfl, hT2⟩ := typed_cons hT1
  obtain ⟨p1, rfl, w1⟩ := ty_34 q1 h1
  obtain ⟨c2, pcs3, q2, rfl, h2, rfl, hT3⟩ := typed_cons hT2
  obtain ⟨p2, rfl, w2⟩ := ty_41 q2 h2
  obtain rfl := typed_nil hT3
  have h := (F_law39_BeltsRaw_ok (law_BeltsRaw p0 w0 p1 w1 p2 w2) []).mono fun r low' h => h.1
  have e : ([mkE (tAgg Try.prog 27) ((fun x : List T_Belt => [.vs 2 (List.map T_Belt.enc x)]) p0), mkE (tAgg Try.prog 34) ((fun x : T_Line => [.int .i64 x.Time, .vs 1 (List.map (PV.int .i64) x.States), .vs 1 (List.map (PV.int .i64) x.Since), .vs 1 (List.map PV.bool x.Pulled), .vs 1 (List.map PV.bool x.Held)]) p1), mkE (tAgg Try.prog 41) ((fun x : A2_Int => [.int .i64 x.a0, .int .i64 x.a1]) p2)] : List PV) = [.vs 2 (List.map T_Belt.enc p0), .agg [.int .i64 p1.Time, .vs 1 (List.map (PV.int .i64) p1.States), .vs 1 (List.map (PV.int .i64) p1.Since), .vs 1 (List.map PV.bool p1.Pulled), .vs 1 (List.map PV.bool p1.Held)], .agg [.int .i64 p2.a0, .int .i64 p2.a1]] := by
    rw [show tAgg Try.prog 27 = some false from by kernel_rfl, show tAgg Try.prog 34 = some true from by kernel_rfl, show tAgg Try.prog 41 = some true from by kernel_rfl]
    rfl
  rw [e]
  exact h

set_option maxRecDepth 100000 in
theorem lifted_BeltsRaw (os : Os) (started : os.Started) (H : Type) (enc : TypeId × Value → H) :
    ReturnsInHanded {} Try.checked os 4 .any (Rows.beltsRawSpec.pre6 enc Try.prog Try.f4 Rows.beltsRawRow.domain false) (Rows.beltsRawSpec.post enc Try.prog Try.f4 false true false false) :=
  law_lifted (C := Try.checked) (tb := 4) (by kernel_rfl) started (by kernel_rfl) Try.func4
    (ChangeSpec.witness6 (enc := enc) (C := Try.checked) false ⟨#[], #[.slice none 0 0, .agg #[.int .i64 0, .slice none 0 0, .slice none 0 0, .slice none 0 0, .slice none 0 0], .agg #[.int .i64 0, .int .i64 0]], []⟩ 8 (by kernel_rfl) (by kernel_rfl) (by kernel_rfl) (by kernel_rfl))
    (by kernel_rfl) (by kernel_rfl) (by kernel_rfl) rfl rfl Try.underlying4 (fun ds hl => by
      match ds, hl with
      | [_, _, _], _ => rfl) calls_BeltsRaw

theorem beltsRaw_holds : Rows.BeltsRawSaid :=
  OpenClaim.holds_of_wide 4 Try.f4 rfl rfl rfl rfl rfl rfl rfl ⟨rfl, rfl, rfl, rfl, rfl⟩ rfl rfl rfl rfl rfl (by kernel_rfl) Try.func4 (by kernel_rfl)
    (of_decide_eq_true (by kernel_rfl)) (by unfold Func.isWrapper; first | (rw [if_pos (by decide +kernel)]; kernel_rfl) | (rw [if_neg (by decide +kernel)]; exact ⟨rfl, rfl⟩))
    (fun os started H enc _ => lifted_BeltsRaw os started H enc)
#print axioms beltsRaw_holds
end Go.Proofs.Ytmomjhbinkmefaa
