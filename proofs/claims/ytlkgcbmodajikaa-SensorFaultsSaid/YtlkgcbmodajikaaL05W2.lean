/- Printed by wip/lift/lift.py: the walks that show that the program computes them. -/
import Derived.Test.YtlkgcbmodajikaaL05W1
namespace Go.Proofs.Ytlkgcbmodajikaa
open Go Go.Aml Go.L
attribute [local irreducible] VRd VEf VOp VOps VWp DOps
set_option linter.unusedVariables false
set_option maxHeartbeats 4000000

theorem F_law05_SensorChecks_ok {p0 : List Int} {p1 : T_Sensor} {p2 : Int} {r : Bool} (hF : F_law05_SensorChecks p0 p1 p2 = some r) (low : List AObj) :
    VCalls Try.prog 3 [.vs 1 (List.map (PV.int .u8) p0), .agg [.int .i64 p1.Address, .int .i64 p1.Kind, .int .i64 p1.Target, .int .i64 p1.Offset, .int .i64 p1.Scale, .int .i64 p1.Error, .int .i64 p1.Drift, .int .i64 p1.Life], .int .i64 p2] low fun x low' => x = .bool r ∧ low' = low := by
  refine vcalls_of_body (nt := 26) (rs := [.tmp 6]) Try.func3 rfl rfl (Nat.le_of_ble_eq_true rfl) rfl ?_
  refine vwp_monoW (Q' := FnE (fun E' lw lc => Weak E' lw lc [(6, .bool r)] low [])) ?_ ?_
  · unfold F_law05_SensorChecks at hF
    refine vwp_seq ?_
    refine vwp_region ?_
    refine vops_efE (vef_boxN rfl rfl (v := .agg [.int .i64 p1.Address, .int .i64 p1.Kind, .int .i64 p1.Target, .int .i64 p1.Offset, .int .i64 p1.Scale, .int .i64 p1.Error, .int .i64 p1.Drift, .int .i64 p1.Life]) rfl rfl (Nat.succ_pos _) rfl rfl) rfl ?_
    refine vops_rd (rd_asB rfl) rfl ?_
    refine vops_nil ?_
    refine vwp_seq ?_
    refine vwp_region ?_
    obtain ⟨x1, h2, hF⟩ := bnd hF
    refine vops_rd (rd_mvV rfl) rfl ?_
    refine vops_rd (rd_mvI rfl) rfl ?_
    refine vops_efE (vef_callP rfl Try.call10 (F_law05_made_ok h2 _)) rfl ?_
    refine vops_efE (vef_allocN rfl rfl tz_24 rfl rfl (Nat.succ_pos _) rfl) rfl ?_
    refine vops_efE (vef_store (p := .agg [.int .i64 x1.Address, .int .i64 x1.Kind, .int .i64 x1.Target, .int .i64 x1.Offset, .int .i64 x1.Scale, .int .i64 x1.Error, .int .i64 x1.Drift, .int .i64 x1.Life]) (e' := .agg [.int .i64 x1.Address, .int .i64 x1.Kind, .int .i64 x1.Target, .int .i64 x1.Offset, .int .i64 x1.Scale, .int .i64 x1.Error, .int .i64 x1.Drift, .int .i64 x1.Life]) rfl (getO_N rfl rfl) rfl rfl ts_24 rfl (nt_ne rfl) rfl (Nat.le_of_ble_eq_true rfl) rfl (setO_N rfl rfl)) rfl ?_
    refine vops_nil ?_
    refine vwp_seq ?_
    obtain ⟨x3, h4, hF⟩ := bnd hF
    obtain ⟨x5, h6, hF⟩ := bnd hF
    rcases Bool.eq_false_or_eq_true (decide (x3 = x5)) with c7 | c7
    · have hF := bifT c7 hF
      obtain ⟨x8, h9, hF⟩ := bnd hF
      obtain ⟨x10, h11, hF⟩ := bnd hF
      rcases Bool.eq_false_or_eq_true (decide (x8 = x10)) with c12 | c12
      · have hF := bifT c12 hF
        obtain ⟨x13, h14, hF⟩ := bnd hF
        refine vwp_drawn [[], [0], [], [0, 1, 2], [0, 1, 2, 3], [0, 1, 2, 3, 4], [0, 1, 2, 3, 4, 5], [0, 1, 2, 3, 4, 5, 6], [0, 1, 2, 3, 4, 5], [0, 1, 2, 3, 4, 5, 6, 7, 8], [0, 1, 2, 3, 4, 5, 6, 7, 8, 9], [0, 1, 2, 3, 4, 5, 6, 7, 8, 9, 10], [0, 1, 2, 3, 4, 5, 6, 7, 8, 9, 10, 11], [0, 1, 2, 3, 4, 5, 6, 7, 8, 9, 10, 11, 12], [0, 1, 2, 3, 4, 5, 6, 7, 8, 9, 10, 11, 12, 13], [0, 1, 2, 3, 4, 5, 6, 7, 8, 9, 10, 11, 12, 13, 14]] [false, false, false, false, false, false, false, false, false, false, false, false, false, false, false, false] [(low, [⟨24, 8, [.agg [.int .i64 p1.Address, .int .i64 p1.Kind, .int .i64 p1.Target, .int .i64 p1.Offset, .int .i64 p1.Scale, .int .i64 p1.Error, .int .i64 p1.Drift, .int .i64 p1.Life]], 0⟩, ⟨24, 8, [.agg [.int .i64 x1.Address, .int .i64 x1.Kind, .int .i64 x1.Target, .int .i64 x1.Offset, .int .i64 x1.Scale, .int .i64 x1.Error, .int .i64 x1.Drift, .int .i64 x1.Life]], 0⟩])] mixed (by kernel_rfl) rfl (lenAll (all1 rfl all0)) rfl (low, [⟨24, 8, [.agg [.int .i64 p1.Address, .int .i64 p1.Kind, .int .i64 p1.Target, .int .i64 p1.Offset, .int .i64 p1.Scale, .int .i64 p1.Error, .int .i64 p1.Drift, .int .i64 p1.Life]], 0⟩, ⟨24, 8, [.agg [.int .i64 x1.Address, .int .i64 x1.Kind, .int .i64 x1.Target, .int .i64 x1.Offset, .int .i64 x1.Scale, .int .i64 x1.Error, .int .i64 x1.Drift, .int .i64 x1.Life]], 0⟩]) rfl rfl ?_
        refine dops_rdW [(low, [⟨24, 8, [.agg [.int .i64 p1.Address, .int .i64 p1.Kind, .int .i64 p1.Target, .int .i64 p1.Offset, .int .i64 p1.Scale, .int .i64 p1.Error, .int .i64 p1.Drift, .int .i64 p1.Life]], 0⟩, ⟨24, 8, [.agg [.int .i64 x1.Address, .int .i64 x1.Kind, .int .i64 x1.Target, .int .i64 x1.Offset, .int .i64 x1.Scale, .int .i64 x1.Error, .int .i64 x1.Drift, .int .i64 x1.Life]], 0⟩])] rfl rfl (all1 (VRd.ntl (rd_loadN (ds := [.int .i64 x1.Address, .int .i64 x1.Kind, .int .i64 x1.Target, .int .i64 x1.Offset, .int .i64 x1.Scale, .int .i64 x1.Error, .int .i64 x1.Drift, .int .i64 x1.Life]) rfl (getO_N rfl rfl) rfl ta_24 ts_24 rfl rfl rfl)) all0) ?_
        refine dops_rdW [(low, [⟨24, 8, [.agg [.int .i64 p1.Address, .int .i64 p1.Kind, .int .i64 p1.Target, .int .i64 p1.Offset, .int .i64 p1.Scale, .int .i64 p1.Error, .int .i64 p1.Drift, .int .i64 p1.Life]], 0⟩, ⟨24, 8, [.agg [.int .i64 x1.Address, .int .i64 x1.Kind, .int .i64 x1.Target, .int .i64 x1.Offset, .int .i64 x1.Scale, .int .i64 x1.Error, .int .i64 x1.Drift, .int .i64 x1.Life]], 0⟩])] rfl rfl (all1 (nt_of (vef_callP rfl Try.call11 (F_sensor_Check_ok h4 _))) all0) ?_
        refine dops_rdW [(low, [⟨24, 8, [.agg [.int .i64 p1.Address, .int .i64 p1.Kind, .int .i64 p1.Target, .int .i64 p1.Offset, .int .i64 p1.Scale, .int .i64 p1.Error, .int .i64 p1.Drift, .int .i64 p1.Life]], 0⟩, ⟨24, 8, [.agg [.int .i64 x1.Address, .int .i64 x1.Kind, .int .i64 x1.Target, .int .i64 x1.Offset, .int .i64 x1.Scale, .int .i64 x1.Error, .int .i64 x1.Drift, .int .i64 x1.Life]], 0⟩])] rfl rfl (all1 (VRd.ntl (rd_loadN (ds := [.int .i64 x1.Address, .int .i64 x1.Kind, .int .i64 x1.Target, .int .i64 x1.Offset, .int .i64 x1.Scale, .int .i64 x1.Error, .int .i64 x1.Drift, .int .i64 x1.Life]) rfl (getO_N rfl rfl) rfl ta_24 ts_24 rfl rfl rfl)) all0) ?_
        refine dops_rdW [(low, [⟨24, 8, [.agg [.int .i64 p1.Address, .int .i64 p1.Kind, .int .i64 p1.Target, .int .i64 p1.Offset, .int .i64 p1.Scale, .int .i64 p1.Error, .int .i64 p1.Drift, .int .i64 p1.Life]], 0⟩, ⟨24, 8, [.agg [.int .i64 x1.Address, .int .i64 x1.Kind, .int .i64 x1.Target, .int .i64 x1.Offset, .int .i64 x1.Scale, .int .i64 x1.Error, .int .i64 x1.Drift, .int .i64 x1.Life]], 0⟩])] rfl rfl (all1 (nt_of (vef_callP rfl Try.call12 (F_ref05_Check_ok h6 _))) all0) ?_
        refine dops_rdW [(low, [⟨24, 8, [.agg [.int .i64 p1.Address, .int .i64 p1.Kind, .int .i64 p1.Target, .int .i64 p1.Offset, .int .i64 p1.Scale, .int .i64 p1.Error, .int .i64 p1.Drift, .int .i64 p1.Life]], 0⟩, ⟨24, 8, [.agg [.int .i64 x1.Address, .int .i64 x1.Kind, .int .i64 x1.Target, .int .i64 x1.Offset, .int .i64 x1.Scale, .int .i64 x1.Error, .int .i64 x1.Drift, .int .i64 x1.Life]], 0⟩])] rfl rfl (all1 (VRd.ntl (rd_eql rfl rfl)) all0) ?_
        refine dops_rdW [(low, [⟨24, 8, [.agg [.int .i64 p1.Address, .int .i64 p1.Kind, .int .i64 p1.Target, .int .i64 p1.Offset, .int .i64 p1.Scale, .int .i64 p1.Error, .int .i64 p1.Drift, .int .i64 p1.Life]], 0⟩, ⟨24, 8, [.agg [.int .i64 x1.Address, .int .i64 x1.Kind, .int .i64 x1.Target, .int .i64 x1.Offset, .int .i64 x1.Scale, .int .i64 x1.Error, .int .i64 x1.Drift, .int .i64 x1.Life]], 0⟩])] rfl rfl (all1 (VRd.ntl (rd_mvB rfl)) all0) ?_
        refine dops_takeW [(low, [⟨24, 8, [.agg [.int .i64 p1.Address, .int .i64 p1.Kind, .int .i64 p1.Target, .int .i64 p1.Offset, .int .i64 p1.Scale, .int .i64 p1.Error, .int .i64 p1.Drift, .int .i64 p1.Life]], 0⟩, ⟨24, 8, [.agg [.int .i64 x1.Address, .int .i64 x1.Kind, .int .i64 x1.Target, .int .i64 x1.Offset, .int .i64 x1.Scale, .int .i64 x1.Error, .int .i64 x1.Drift, .int .i64 x1.Life]], 0⟩])] rfl rfl rfl (congrArg PV.bool c7) (all1 (VRd.ntl (rd_loadN (ds := [.int .i64 p1.Address, .int .i64 p1.Kind, .int .i64 p1.Target, .int .i64 p1.Offset, .int .i64 p1.Scale, .int .i64 p1.Error, .int .i64 p1.Drift, .int .i64 p1.Life]) rfl (getO_N rfl rfl) rfl ta_24 ts_24 rfl rfl rfl)) all0) ?_
        refine dops_takeW [(low, [⟨24, 8, [.agg [.int .i64 p1.Address, .int .i64 p1.Kind, .int .i64 p1.Target, .int .i64 p1.Offset, .int .i64 p1.Scale, .int .i64 p1.Error, .int .i64 p1.Drift, .int .i64 p1.Life]], 0⟩, ⟨24, 8, [.agg [.int .i64 x1.Address, .int .i64 x1.Kind, .int .i64 x1.Target, .int .i64 x1.Offset, .int .i64 x1.Scale, .int .i64 x1.Error, .int .i64 x1.Drift, .int .i64 x1.Life]], 0⟩])] rfl rfl rfl (congrArg PV.bool c7) (all1 (nt_of (vef_callP rfl Try.call11 (F_sensor_Check_ok h9 _))) all0) ?_
        refine dops_takeW [(low, [⟨24, 8, [.agg [.int .i64 p1.Address, .int .i64 p1.Kind, .int .i64 p1.Target, .int .i64 p1.Offset, .int .i64 p1.Scale, .int .i64 p1.Error, .int .i64 p1.Drift, .int .i64 p1.Life]], 0⟩, ⟨24, 8, [.agg [.int .i64 x1.Address, .int .i64 x1.Kind, .int .i64 x1.Target, .int .i64 x1.Offset, .int .i64 x1.Scale, .int .i64 x1.Error, .int .i64 x1.Drift, .int .i64 x1.Life]], 0⟩])] rfl rfl rfl (congrArg PV.bool c7) (all1 (VRd.ntl (rd_loadN (ds := [.int .i64 p1.Address, .int .i64 p1.Kind, .int .i64 p1.Target, .int .i64 p1.Offset, .int .i64 p1.Scale, .int .i64 p1.Error, .int .i64 p1.Drift, .int .i64 p1.Life]) rfl (getO_N rfl rfl) rfl ta_24 ts_24 rfl rfl rfl)) all0) ?_
        refine dops_takeW [(low, [⟨24, 8, [.agg [.int .i64 p1.Address, .int .i64 p1.Kind, .int .i64 p1.Target, .int .i64 p1.Offset, .int .i64 p1.Scale, .int .i64 p1.Error, .int .i64 p1.Drift, .int .i64 p1.Life]], 0⟩, ⟨24, 8, [.agg [.int .i64 x1.Address, .int .i64 x1.Kind, .int .i64 x1.Target, .int .i64 x1.Offset, .int .i64 x1.Scale, .int .i64 x1.Error, .int .i64 x1.Drift, .int .i64 x1.Life]], 0⟩])] rfl rfl rfl (congrArg PV.bool c7) (all1 (nt_of (vef_callP rfl Try.call12 (F_ref05_Check_ok h11 _))) all0) ?_
        refine dops_takeW [(low, [⟨24, 8, [.agg [.int .i64 p1.Address, .int .i64 p1.Kind, .int .i64 p1.Target, .int .i64 p1.Offset, .int .i64 p1.Scale, .int .i64 p1.Error, .int .i64 p1.Drift, .int .i64 p1.Life]], 0⟩, ⟨24, 8, [.agg [.int .i64 x1.Address, .int .i64 x1.Kind, .int .i64 x1.Target, .int .i64 x1.Offset, .int .i64 x1.Scale, .int .i64 x1.Error, .int .i64 x1.Drift, .int .i64 x1.Life]], 0⟩])] rfl rfl rfl (congrArg PV.bool c7) (all1 (VRd.ntl (rd_eql rfl rfl)) all0) ?_
        refine dops_rdW [(low, [⟨24, 8, [.agg [.int .i64 p1.Address, .int .i64 p1.Kind, .int .i64 p1.Target, .int .i64 p1.Offset, .int .i64 p1.Scale, .int .i64 p1.Error, .int .i64 p1.Drift, .int .i64 p1.Life]], 0⟩, ⟨24, 8, [.agg [.int .i64 x1.Address, .int .i64 x1.Kind, .int .i64 x1.Target, .int .i64 x1.Offset, .int .i64 x1.Scale, .int .i64 x1.Error, .int .i64 x1.Drift, .int .i64 x1.Life]], 0⟩])] rfl rfl (all1 (VRd.ntl (rd_pickT (congrArg PV.bool c7) rfl)) all0) ?_
        refine dops_rdW [(low, [⟨24, 8, [.agg [.int .i64 p1.Address, .int .i64 p1.Kind, .int .i64 p1.Target, .int .i64 p1.Offset, .int .i64 p1.Scale, .int .i64 p1.Error, .int .i64 p1.Drift, .int .i64 p1.Life]], 0⟩, ⟨24, 8, [.agg [.int .i64 x1.Address, .int .i64 x1.Kind, .int .i64 x1.Target, .int .i64 x1.Offset, .int .i64 x1.Scale, .int .i64 x1.Error, .int .i64 x1.Drift, .int .i64 x1.Life]], 0⟩])] rfl rfl (all1 (VRd.ntl (rd_mvB rfl)) all0) ?_
        refine dops_takeW [(low, [⟨24, 8, [.agg [.int .i64 p1.Address, .int .i64 p1.Kind, .int .i64 p1.Target, .int .i64 p1.Offset, .int .i64 p1.Scale, .int .i64 p1.Error, .int .i64 p1.Drift, .int .i64 p1.Life]], 0⟩, ⟨24, 8, [.agg [.int .i64 x1.Address, .int .i64 x1.Kind, .int .i64 x1.Target, .int .i64 x1.Offset, .int .i64 x1.Scale, .int .i64 x1.Error, .int .i64 x1.Drift, .int .i64 x1.Life]], 0⟩])] rfl rfl rfl (congrArg PV.bool c12) (all1 (nt_of (vef_callP rfl Try.call13 (F_law05_awake_ok h14 _))) all0) ?_
        refine dops_rdW [(low, [⟨24, 8, [.agg [.int .i64 p1.Address, .int .i64 p1.Kind, .int .i64 p1.Target, .int .i64 p1.Offset, .int .i64 p1.Scale, .int .i64 p1.Error, .int .i64 p1.Drift, .int .i64 p1.Life]], 0⟩, ⟨24, 8, [.agg [.int .i64 x1.Address, .int .i64 x1.Kind, .int .i64 x1.Target, .int .i64 x1.Offset, .int .i64 x1.Scale, .int .i64 x1.Error, .int .i64 x1.Drift, .int .i64 x1.Life]], 0⟩])] rfl rfl (all1 (VRd.ntl (rd_pickT (congrArg PV.bool c12) rfl)) all0) ?_
        refine dops_rdW [(low, [⟨24, 8, [.agg [.int .i64 p1.Address, .int .i64 p1.Kind, .int .i64 p1.Target, .int .i64 p1.Offset, .int .i64 p1.Scale, .int .i64 p1.Error, .int .i64 p1.Drift, .int .i64 p1.Life]], 0⟩, ⟨24, 8, [.agg [.int .i64 x1.Address, .int .i64 x1.Kind, .int .i64 x1.Target, .int .i64 x1.Offset, .int .i64 x1.Scale, .int .i64 x1.Error, .int .i64 x1.Drift, .int .i64 x1.Life]], 0⟩])] rfl rfl (all1 (VRd.ntl (rd_asB rfl)) all0) ?_
        refine dops_nil ?_
        refine vwp_ret ?_
        obtain rfl := Option.some.inj hF
        refine fnR ?_
        exact weak_pick rfl [] (by decide) ⟨rn_low rfl (.bool _), trivial⟩ trivial
      · have hF := bifF c12 hF
        refine vwp_drawn [[], [0], [], [0, 1, 2], [0, 1, 2, 3], [0, 1, 2, 3, 4], [0, 1, 2, 3, 4, 5], [0, 1, 2, 3, 4, 5, 6], [0, 1, 2, 3, 4, 5], [0, 1, 2, 3, 4, 5, 6, 7, 8], [0, 1, 2, 3, 4, 5, 6, 7, 8, 9], [0, 1, 2, 3, 4, 5, 6, 7, 8, 9, 10], [0, 1, 2, 3, 4, 5, 6, 7, 8, 9, 10, 11], [0, 1, 2, 3, 4, 5, 6, 7, 8, 9, 10, 11, 12], [0, 1, 2, 3, 4, 5, 6, 7, 8, 9, 10, 11, 12, 13], [0, 1, 2, 3, 4, 5, 6, 7, 8, 9, 10, 11, 12, 13, 14]] [false, false, false, false, false, false, false, false, false, false, false, false, false, false, false, false] [(low, [⟨24, 8, [.agg [.int .i64 p1.Address, .int .i64 p1.Kind, .int .i64 p1.Target, .int .i64 p1.Offset, .int .i64 p1.Scale, .int .i64 p1.Error, .int .i64 p1.Drift, .int .i64 p1.Life]], 0⟩, ⟨24, 8, [.agg [.int .i64 x1.Address, .int .i64 x1.Kind, .int .i64 x1.Target, .int .i64 x1.Offset, .int .i64 x1.Scale, .int .i64 x1.Error, .int .i64 x1.Drift, .int .i64 x1.Life]], 0⟩])] mixed (by kernel_rfl) rfl (lenAll (all1 rfl all0)) rfl (low, [⟨24, 8, [.agg [.int .i64 p1.Address, .int .i64 p1.Kind, .int .i64 p1.Target, .int .i64 p1.Offset, .int .i64 p1.Scale, .int .i64 p1.Error, .int .i64 p1.Drift, .int .i64 p1.Life]], 0⟩, ⟨24, 8, [.agg [.int .i64 x1.Address, .int .i64 x1.Kind, .int .i64 x1.Target, .int .i64 x1.Offset, .int .i64 x1.Scale, .int .i64 x1.Error, .int .i64 x1.Drift, .int .i64 x1.Life]], 0⟩]) rfl rfl ?_
        refine dops_rdW [(low, [⟨24, 8, [.agg [.int .i64 p1.Address, .int .i64 p1.Kind, .int .i64 p1.Target, .int .i64 p1.Offset, .int .i64 p1.Scale, .int .i64 p1.Error, .int .i64 p1.Drift, .int .i64 p1.Life]], 0⟩, ⟨24, 8, [.agg [.int .i64 x1.Address, .int .i64 x1.Kind, .int .i64 x1.Target, .int .i64 x1.Offset, .int .i64 x1.Scale, .int .i64 x1.Error, .int .i64 x1.Drift, .int .i64 x1.Life]], 0⟩])] rfl rfl (all1 (VRd.ntl (rd_loadN (ds := [.int .i64 x1.Address, .int .i64 x1.Kind, .int .i64 x1.Target, .int .i64 x1.Offset, .int .i64 x1.Scale, .int .i64 x1.Error, .int .i64 x1.Drift, .int .i64 x1.Life]) rfl (getO_N rfl rfl) rfl ta_24 ts_24 rfl rfl rfl)) all0) ?_
        refine dops_rdW [(low, [⟨24, 8, [.agg [.int .i64 p1.Address, .int .i64 p1.Kind, .int .i64 p1.Target, .int .i64 p1.Offset, .int .i64 p1.Scale, .int .i64 p1.Error, .int .i64 p1.Drift, .int .i64 p1.Life]], 0⟩, ⟨24, 8, [.agg [.int .i64 x1.Address, .int .i64 x1.Kind, .int .i64 x1.Target, .int .i64 x1.Offset, .int .i64 x1.Scale, .int .i64 x1.Error, .int .i64 x1.Drift, .int .i64 x1.Life]], 0⟩])] rfl rfl (all1 (nt_of (vef_callP rfl Try.call11 (F_sensor_Check_ok h4 _))) all0) ?_
        refine dops_rdW [(low, [⟨24, 8, [.agg [.int .i64 p1.Address, .int .i64 p1.Kind, .int .i64 p1.Target, .int .i64 p1.Offset, .int .i64 p1.Scale, .int .i64 p1.Error, .int .i64 p1.Drift, .int .i64 p1.Life]], 0⟩, ⟨24, 8, [.agg [.int .i64 x1.Address, .int .i64 x1.Kind, .int .i64 x1.Target, .int .i64 x1.Offset, .int .i64 x1.Scale, .int .i64 x1.Error, .int .i64 x1.Drift, .int .i64 x1.Life]], 0⟩])] rfl rfl (all1 (VRd.ntl (rd_loadN (ds := [.int .i64 x1.Address, .int .i64 x1.Kind, .int .i64 x1.Target, .int .i64 x1.Offset, .int .i64 x1.Scale, .int .i64 x1.Error, .int .i64 x1.Drift, .int .i64 x1.Life]) rfl (getO_N rfl rfl) rfl ta_24 ts_24 rfl rfl rfl)) all0) ?_
        refine dops_rdW [(low, [⟨24, 8, [.agg [.int .i64 p1.Address, .int .i64 p1.Kind, .int .i64 p1.Target, .int .i64 p1.Offset, .int .i64 p1.Scale, .int .i64 p1.Error, .int .i64 p1.Drift, .int .i64 p1.Life]], 0⟩, ⟨24, 8, [.agg [.int .i64 x1.Address, .int .i64 x1.Kind, .int .i64 x1.Target, .int .i64 x1.Offset, .int .i64 x1.Scale, .int .i64 x1.Error, .int .i64 x1.Drift, .int .i64 x1.Life]], 0⟩])] rfl rfl (all1 (nt_of (vef_callP rfl Try.call12 (F_ref05_Check_ok h6 _))) all0) ?_
        refine dops_rdW [(low, [⟨24, 8, [.agg [.int .i64 p1.Address, .int .i64 p1.Kind, .int .i64 p1.Target, .int .i64 p1.Offset, .int .i64 p1.Scale, .int .i64 p1.Error, .int .i64 p1.Drift, .int .i64 p1.Life]], 0⟩, ⟨24, 8, [.agg [.int .i64 x1.Address, .int .i64 x1.Kind, .int .i64 x1.Target, .int .i64 x1.Offset, .int .i64 x1.Scale, .int .i64 x1.Error, .int .i64 x1.Drift, .int .i64 x1.Life]], 0⟩])] rfl rfl (all1 (VRd.ntl (rd_eql rfl rfl)) all0) ?_
        refine dops_rdW [(low, [⟨24, 8, [.agg [.int .i64 p1.Address, .int .i64 p1.Kind, .int .i64 p1.Target, .int .i64 p1.Offset, .int .i64 p1.Scale, .int .i64 p1.Error, .int .i64 p1.Drift, .int .i64 p1.Life]], 0⟩, ⟨24, 8, [.agg [.int .i64 x1.Address, .int .i64 x1.Kind, .int .i64 x1.Target, .int .i64 x1.Offset, .int .i64 x1.Scale, .int .i64 x1.Error, .int .i64 x1.Drift, .int .i64 x1.Life]], 0⟩])] rfl rfl (all1 (VRd.ntl (rd_mvB rfl)) all0) ?_
        refine dops_takeW [(low, [⟨24, 8, [.agg [.int .i64 p1.Address, .int .i64 p1.Kind, .int .i64 p1.Target, .int .i64 p1.Offset, .int .i64 p1.Scale, .int .i64 p1.Error, .int .i64 p1.Drift, .int .i64 p1.Life]], 0⟩, ⟨24, 8, [.agg [.int .i64 x1.Address, .int .i64 x1.Kind, .int .i64 x1.Target, .int .i64 x1.Offset, .int .i64 x1.Scale, .int .i64 x1.Error, .int .i64 x1.Drift, .int .i64 x1.Life]], 0⟩])] rfl rfl rfl (congrArg PV.bool c7) (all1 (VRd.ntl (rd_loadN (ds := [.int .i64 p1.Address, .int .i64 p1.Kind, .int .i64 p1.Target, .int .i64 p1.Offset, .int .i64 p1.Scale, .int .i64 p1.Error, .int .i64 p1.Drift, .int .i64 p1.Life]) rfl (getO_N rfl rfl) rfl ta_24 ts_24 rfl rfl rfl)) all0) ?_
        refine dops_takeW [(low, [⟨24, 8, [.agg [.int .i64 p1.Address, .int .i64 p1.Kind, .int .i64 p1.Target, .int .i64 p1.Offset, .int .i64 p1.Scale, .int .i64 p1.Error, .int .i64 p1.Drift, .int .i64 p1.Life]], 0⟩, ⟨24, 8, [.agg [.int .i64 x1.Address, .int .i64 x1.Kind, .int .i64 x1.Target, .int .i64 x1.Offset, .int .i64 x1.Scale, .int .i64 x1.Error, .int .i64 x1.Drift, .int .i64 x1.Life]], 0⟩])] rfl rfl rfl (congrArg PV.bool c7) (all1 (nt_of (vef_callP rfl Try.call11 (F_sensor_Check_ok h9 _))) all0) ?_
        refine dops_takeW [(low, [⟨24, 8, [.agg [.int .i64 p1.Address, .int .i64 p1.Kind, .int .i64 p1.Target, .int .i64 p1.Offset, .int .i64 p1.Scale, .int .i64 p1.Error, .int .i64 p1.Drift, .int .i64 p1.Life]], 0⟩, ⟨24, 8, [.agg [.int .i64 x1.Address, .int .i64 x1.Kind, .int .i64 x1.Target, .int .i64 x1.Offset, .int .i64 x1.Scale, .int .i64 x1.Error, .int .i64 x1.Drift, .int .i64 x1.Life]], 0⟩])] rfl rfl rfl (congrArg PV.bool c7) (all1 (VRd.ntl (rd_loadN (ds := [.int .i64 p1.Address, .int .i64 p1.Kind, .int .i64 p1.Target, .int .i64 p1.Offset, .int .i64 p1.Scale, .int .i64 p1.Error, .int .i64 p1.Drift, .int .i64 p1.Life]) rfl (getO_N rfl rfl) rfl ta_24 ts_24 rfl rfl rfl)) all0) ?_
        refine dops_takeW [(low, [⟨24, 8, [.agg [.int .i64 p1.Address, .int .i64 p1.Kind, .int .i64 p1.Target, .int .i64 p1.Offset, .int .i64 p1.Scale, .int .i64 p1.Error, .int .i64 p1.Drift, .int .i64 p1.Life]], 0⟩, ⟨24, 8, [.agg [.int .i64 x1.Address, .int .i64 x1.Kind, .int .i64 x1.Target, .int .i64 x1.Offset, .int .i64 x1.Scale, .int .i64 x1.Error, .int .i64 x1.Drift, .int .i64 x1.Life]], 0⟩])] rfl rfl rfl (congrArg PV.bool c7) (all1 (nt_of (vef_callP rfl Try.call12 (F_ref05_Check_ok h11 _))) all0) ?_
        refine dops_takeW [(low, [⟨24, 8, [.agg [.int .i64 p1.Address, .int .i64 p1.Kind, .int .i64 p1.Target, .int .i64 p1.Offset, .int .i64 p1.Scale, .int .i64 p1.Error, .int .i64 p1.Drift, .int .i64 p1.Life]], 0⟩, ⟨24, 8, [.agg [.int .i64 x1.Address, .int .i64 x1.Kind, .int .i64 x1.Target, .int .i64 x1.Offset, .int .i64 x1.Scale, .int .i64 x1.Error, .int .i64 x1.Drift, .int .i64 x1.Life]], 0⟩])] rfl rfl rfl (congrArg PV.bool c7) (all1 (VRd.ntl (rd_eql rfl rfl)) all0) ?_
        refine dops_rdW [(low, [⟨24, 8, [.agg [.int .i64 p1.Address, .int .i64 p1.Kind, .int .i64 p1.Target, .int .i64 p1.Offset, .int .i64 p1.Scale, .int .i64 p1.Error, .int .i64 p1.Drift, .int .i64 p1.Life]], 0⟩, ⟨24, 8, [.agg [.int .i64 x1.Address, .int .i64 x1.Kind, .int .i64 x1.Target, .int .i64 x1.Offset, .int .i64 x1.Scale, .int .i64 x1.Error, .int .i64 x1.Drift, .int .i64 x1.Life]], 0⟩])] rfl rfl (all1 (VRd.ntl (rd_pickT (congrArg PV.bool c7) rfl)) all0) ?_
        refine dops_rdW [(low, [⟨24, 8, [.agg [.int .i64 p1.Address, .int .i64 p1.Kind, .int .i64 p1.Target, .int .i64 p1.Offset, .int .i64 p1.Scale, .int .i64 p1.Error, .int .i64 p1.Drift, .int .i64 p1.Life]], 0⟩, ⟨24, 8, [.agg [.int .i64 x1.Address, .int .i64 x1.Kind, .int .i64 x1.Target, .int .i64 x1.Offset, .int .i64 x1.Scale, .int .i64 x1.Error, .int .i64 x1.Drift, .int .i64 x1.Life]], 0⟩])] rfl rfl (all1 (VRd.ntl (rd_mvB rfl)) all0) ?_
        refine dops_skip rfl rfl rfl (neF c12) ?_
        refine dops_rdW [(low, [⟨24, 8, [.agg [.int .i64 p1.Address, .int .i64 p1.Kind, .int .i64 p1.Target, .int .i64 p1.Offset, .int .i64 p1.Scale, .int .i64 p1.Error, .int .i64 p1.Drift, .int .i64 p1.Life]], 0⟩, ⟨24, 8, [.agg [.int .i64 x1.Address, .int .i64 x1.Kind, .int .i64 x1.Target, .int .i64 x1.Offset, .int .i64 x1.Scale, .int .i64 x1.Error, .int .i64 x1.Drift, .int .i64 x1.Life]], 0⟩])] rfl rfl (all1 (VRd.ntl (rd_pickF (congrArg PV.bool c12) rfl)) all0) ?_
        refine dops_rdW [(low, [⟨24, 8, [.agg [.int .i64 p1.Address, .int .i64 p1.Kind, .int .i64 p1.Target, .int .i64 p1.Offset, .int .i64 p1.Scale, .int .i64 p1.Error, .int .i64 p1.Drift, .int .i64 p1.Life]], 0⟩, ⟨24, 8, [.agg [.int .i64 x1.Address, .int .i64 x1.Kind, .int .i64 x1.Target, .int .i64 x1.Offset, .int .i64 x1.Scale, .int .i64 x1.Error, .int .i64 x1.Drift, .int .i64 x1.Life]], 0⟩])] rfl rfl (all1 (VRd.ntl (rd_asB rfl)) all0) ?_
        refine dops_nil ?_
        refine vwp_ret ?_
        obtain rfl := Option.some.inj hF
        refine fnR ?_
        exact weak_pick rfl [] (by decide) ⟨rn_low rfl (.bool _), trivial⟩ trivial
    · have hF := bifF c7 hF
      refine vwp_drawn [[], [0], [], [0, 1, 2], [0, 1, 2, 3], [0, 1, 2, 3, 4], [0, 1, 2, 3, 4, 5], [0, 1, 2, 3, 4, 5, 6], [0, 1, 2, 3, 4, 5], [0, 1, 2, 3, 4, 5, 6, 7, 8], [0, 1, 2, 3, 4, 5, 6, 7, 8, 9], [0, 1, 2, 3, 4, 5, 6, 7, 8, 9, 10], [0, 1, 2, 3, 4, 5, 6, 7, 8, 9, 10, 11], [0, 1, 2, 3, 4, 5, 6, 7, 8, 9, 10, 11, 12], [0, 1, 2, 3, 4, 5, 6, 7, 8, 9, 10, 11, 12, 13], [0, 1, 2, 3, 4, 5, 6, 7, 8, 9, 10, 11, 12, 13, 14]] [false, false, false, false, false, false, false, false, false, false, false, false, false, false, false, false] [(low, [⟨24, 8, [.agg [.int .i64 p1.Address, .int .i64 p1.Kind, .int .i64 p1.Target, .int .i64 p1.Offset, .int .i64 p1.Scale, .int .i64 p1.Error, .int .i64 p1.Drift, .int .i64 p1.Life]], 0⟩, ⟨24, 8, [.agg [.int .i64 x1.Address, .int .i64 x1.Kind, .int .i64 x1.Target, .int .i64 x1.Offset, .int .i64 x1.Scale, .int .i64 x1.Error, .int .i64 x1.Drift, .int .i64 x1.Life]], 0⟩])] mixed (by kernel_rfl) rfl (lenAll (all1 rfl all0)) rfl (low, [⟨24, 8, [.agg [.int .i64 p1.Address, .int .i64 p1.Kind, .int .i64 p1.Target, .int .i64 p1.Offset, .int .i64 p1.Scale, .int .i64 p1.Error, .int .i64 p1.Drift, .int .i64 p1.Life]], 0⟩, ⟨24, 8, [.agg [.int .i64 x1.Address, .int .i64 x1.Kind, .int .i64 x1.Target, .int .i64 x1.Offset, .int .i64 x1.Scale, .int .i64 x1.Error, .int .i64 x1.Drift, .int .i64 x1.Life]], 0⟩]) rfl rfl ?_
      refine dops_rdW [(low, [⟨24, 8, [.agg [.int .i64 p1.Address, .int .i64 p1.Kind, .int .i64 p1.Target, .int .i64 p1.Offset, .int .i64 p1.Scale, .int .i64 p1.Error, .int .i64 p1.Drift, .int .i64 p1.Life]], 0⟩, ⟨24, 8, [.agg [.int .i64 x1.Address, .int .i64 x1.Kind, .int .i64 x1.Target, .int .i64 x1.Offset, .int .i64 x1.Scale, .int .i64 x1.Error, .int .i64 x1.Drift, .int .i64 x1.Life]], 0⟩])] rfl rfl (all1 (VRd.ntl (rd_loadN (ds := [.int .i64 x1.Address, .int .i64 x1.Kind, .int .i64 x1.Target, .int .i64 x1.Offset, .int .i64 x1.Scale, .int .i64 x1.Error, .int .i64 x1.Drift, .int .i64 x1.Life]) rfl (getO_N rfl rfl) rfl ta_24 ts_24 rfl rfl rfl)) all0) ?_
      refine dops_rdW [(low, [⟨24, 8, [.agg [.int .i64 p1.Address, .int .i64 p1.Kind, .int .i64 p1.Target, .int .i64 p1.Offset, .int .i64 p1.Scale, .int .i64 p1.Error, .int .i64 p1.Drift, .int .i64 p1.Life]], 0⟩, ⟨24, 8, [.agg [.int .i64 x1.Address, .int .i64 x1.Kind, .int .i64 x1.Target, .int .i64 x1.Offset, .int .i64 x1.Scale, .int .i64 x1.Error, .int .i64 x1.Drift, .int .i64 x1.Life]], 0⟩])] rfl rfl (all1 (nt_of (vef_callP rfl Try.call11 (F_sensor_Check_ok h4 _))) all0) ?_
      refine dops_rdW [(low, [⟨24, 8, [.agg [.int .i64 p1.Address, .int .i64 p1.Kind, .int .i64 p1.Target, .int .i64 p1.Offset, .int .i64 p1.Scale, .int .i64 p1.Error, .int .i64 p1.Drift, .int .i64 p1.Life]], 0⟩, ⟨24, 8, [.agg [.int .i64 x1.Address, .int .i64 x1.Kind, .int .i64 x1.Target, .int .i64 x1.Offset, .int .i64 x1.Scale, .int .i64 x1.Error, .int .i64 x1.Drift, .int .i64 x1.Life]], 0⟩])] rfl rfl (all1 (VRd.ntl (rd_loadN (ds := [.int .i64 x1.Address, .int .i64 x1.Kind, .int .i64 x1.Target, .int .i64 x1.Offset, .int .i64 x1.Scale, .int .i64 x1.Error, .int .i64 x1.Drift, .int .i64 x1.Life]) rfl (getO_N rfl rfl) rfl ta_24 ts_24 rfl rfl rfl)) all0) ?_
      refine dops_rdW [(low, [⟨24, 8, [.agg [.int .i64 p1.Address, .int .i64 p1.Kind, .int .i64 p1.Target, .int .i64 p1.Offset, .int .i64 p1.Scale, .int .i64 p1.Error, .int .i64 p1.Drift, .int .i64 p1.Life]], 0⟩, ⟨24, 8, [.agg [.int .i64 x1.Address, .int .i64 x1.Kind, .int .i64 x1.Target, .int .i64 x1.Offset, .int .i64 x1.Scale, .int .i64 x1.Error, .int .i64 x1.Drift, .int .i64 x1.Life]], 0⟩])] rfl rfl (all1 (nt_of (vef_callP rfl Try.call12 (F_ref05_Check_ok h6 _))) all0) ?_
      refine dops_rdW [(low, [⟨24, 8, [.agg [.int .i64 p1.Address, .int .i64 p1.Kind, .int .i64 p1.Target, .int .i64 p1.Offset, .int .i64 p1.Scale, .int .i64 p1.Error, .int .i64 p1.Drift, .int .i64 p1.Life]], 0⟩, ⟨24, 8, [.agg [.int .i64 x1.Address, .int .i64 x1.Kind, .int .i64 x1.Target, .int .i64 x1.Offset, .int .i64 x1.Scale, .int .i64 x1.Error, .int .i64 x1.Drift, .int .i64 x1.Life]], 0⟩])] rfl rfl (all1 (VRd.ntl (rd_eql rfl rfl)) all0) ?_
      refine dops_rdW [(low, [⟨24, 8, [.agg [.int .i64 p1.Address, .int .i64 p1.Kind, .int .i64 p1.Target, .int .i64 p1.Offset, .int .i64 p1.Scale, .int .i64 p1.Error, .int .i64 p1.Drift, .int .i64 p1.Life]], 0⟩, ⟨24, 8, [.agg [.int .i64 x1.Address, .int .i64 x1.Kind, .int .i64 x1.Target, .int .i64 x1.Offset, .int .i64 x1.Scale, .int .i64 x1.Error, .int .i64 x1.Drift, .int .i64 x1.Life]], 0⟩])] rfl rfl (all1 (VRd.ntl (rd_mvB rfl)) all0) ?_
      refine dops_skip rfl rfl rfl (neF c7) ?_
      refine dops_skip rfl rfl rfl (neF c7) ?_
      refine dops_skip rfl rfl rfl (neF c7) ?_
      refine dops_skip rfl rfl rfl (neF c7) ?_
      refine dops_skip rfl rfl rfl (neF c7) ?_
      refine dops_rdW [(low, [⟨24, 8, [.agg [.int .i64 p1.Address, .int .i64 p1.Kind, .int .i64 p1.Target, .int .i64 p1.Offset, .int .i64 p1.Scale, .int .i64 p1.Error, .int .i64 p1.Drift, .int .i64 p1.Life]], 0⟩, ⟨24, 8, [.agg [.int .i64 x1.Address, .int .i64 x1.Kind, .int .i64 x1.Target, .int .i64 x1.Offset, .int .i64 x1.Scale, .int .i64 x1.Error, .int .i64 x1.Drift, .int .i64 x1.Life]], 0⟩])] rfl rfl (all1 (VRd.ntl (rd_pickF (congrArg PV.bool c7) rfl)) all0) ?_
      refine dops_rdW [(low, [⟨24, 8, [.agg [.int .i64 p1.Address, .int .i64 p1.Kind, .int .i64 p1.Target, .int .i64 p1.Offset, .int .i64 p1.Scale, .int .i64 p1.Error, .int .i64 p1.Drift, .int .i64 p1.Life]], 0⟩, ⟨24, 8, [.agg [.int .i64 x1.Address, .int .i64 x1.Kind, .int .i64 x1.Target, .int .i64 x1.Offset, .int .i64 x1.Scale, .int .i64 x1.Error, .int .i64 x1.Drift, .int .i64 x1.Life]], 0⟩])] rfl rfl (all1 (VRd.ntl (rd_mvB rfl)) all0) ?_
      refine dops_skip rfl rfl rfl (by decide) ?_
      refine dops_rdW [(low, [⟨24, 8, [.agg [.int .i64 p1.Address, .int .i64 p1.Kind, .int .i64 p1.Target, .int .i64 p1.Offset, .int .i64 p1.Scale, .int .i64 p1.Error, .int .i64 p1.Drift, .int .i64 p1.Life]], 0⟩, ⟨24, 8, [.agg [.int .i64 x1.Address, .int .i64 x1.Kind, .int .i64 x1.Target, .int .i64 x1.Offset, .int .i64 x1.Scale, .int .i64 x1.Error, .int .i64 x1.Drift, .int .i64 x1.Life]], 0⟩])] rfl rfl (all1 (VRd.ntl (rd_pickF rfl rfl)) all0) ?_
      refine dops_rdW [(low, [⟨24, 8, [.agg [.int .i64 p1.Address, .int .i64 p1.Kind, .int .i64 p1.Target, .int .i64 p1.Offset, .int .i64 p1.Scale, .int .i64 p1.Error, .int .i64 p1.Drift, .int .i64 p1.Life]], 0⟩, ⟨24, 8, [.agg [.int .i64 x1.Address, .int .i64 x1.Kind, .int .i64 x1.Target, .int .i64 x1.Offset, .int .i64 x1.Scale, .int .i64 x1.Error, .int .i64 x1.Drift, .int .i64 x1.Life]], 0⟩])] rfl rfl (all1 (VRd.ntl (rd_asB rfl)) all0) ?_
      refine dops_nil ?_
      refine vwp_ret ?_
      obtain rfl := Option.some.inj hF
      refine fnR ?_
      exact weak_pick rfl [] (by decide) ⟨rn_low rfl (.bool _), trivial⟩ trivial
  · rintro _ _ _ _ ⟨he, hw⟩
    refine ⟨_, _, _, hw, ?_⟩
    exact bodyQ_pure he [.bool r] ⟨rfl, trivial⟩ (.bool _) ⟨rfl, rfl⟩

theorem F_draw_Mod_ok {p0 : Int} {p1 : Int} {r : Int} (hF : F_draw_Mod p0 p1 = some r) (low : List AObj) :
    VCalls Try.prog 14 [.int .i64 p0, .int .i64 p1] low fun x low' => x = .int .i64 r ∧ low' = low := by
  refine vcalls_of_body (nt := 16) (rs := [.tmp 4]) Try.func14 rfl rfl (Nat.le_of_ble_eq_true rfl) rfl ?_
  refine vwp_monoW (Q' := FnE (fun E' lw lc => Weak E' lw lc [(4, .int .i64 r)] low [])) ?_ ?_
  · unfold F_draw_Mod at hF
    refine vwp_seq ?_
    refine vwp_region ?_
    refine vops_rd (rd_asI rfl) rfl ?_
    refine vops_nil ?_
    refine vwp_seq ?_
    refine vwp_seq ?_
    refine vwp_region ?_
    refine vops_rd (rd_mvI rfl) rfl ?_
    refine vops_rd (rd_lss rfl rfl) rfl ?_
    refine vops_nil ?_
    refine vwp_cond rfl (fun c1 => ?_) (fun c1 => ?_)
    · have hF := bifT c1 hF
      refine vwp_seq ?_
      refine vwp_region ?_
      refine vops_rd (rd_asI rfl) rfl ?_
      refine vops_nil ?_
      refine vwp_ret ?_
      obtain rfl := Option.some.inj hF
      refine fnR ?_
      exact weak_sub ⟨rfl, trivial⟩
    · have hF := bifF c1 hF
      refine vwp_skip ?_
      refine vwp_seq ?_
      refine vwp_region ?_
      obtain ⟨x2, h3, hF⟩ := bnd hF
      refine vops_rd (rd_mvI rfl) rfl ?_
      refine vops_rd (rd_mvI rfl) rfl ?_
      refine vops_rd (rd_rem rfl rfl (remI_some h3).1 (remI_some h3).2) rfl ?_
      refine vops_rd (rd_asI rfl) rfl ?_
      refine vops_nil ?_
      refine vwp_seq ?_
      refine vwp_seq ?_
      refine vwp_region ?_
      refine vops_rd (rd_mvI rfl) rfl ?_
      refine vops_rd (rd_lss rfl rfl) rfl ?_
      refine vops_nil ?_
      obtain ⟨o4, ho4, hF⟩ := bnd hF
      refine vwp_monoW (Q' := (fun o4 => OnlyE .normal (fun E' lw lc => Weak E' lw lc [(0, .int .i64 o4)] low [])) o4) ?_ ?_
      · replace hF := ho4
        refine vwp_cond rfl (fun c5 => ?_) (fun c5 => ?_)
        · have hF := bifT c5 hF
          refine vwp_region ?_
          refine vops_rd (rd_mvI rfl) rfl ?_
          refine vops_rd (rd_mvI rfl) rfl ?_
          refine vops_rd (rd_add rfl rfl rfl) rfl ?_
          refine vops_rd (rd_asI rfl) rfl ?_
          refine vops_nil ?_
          obtain rfl := Option.some.inj hF
          refine onlyE ?_
          exact weak_sub ⟨rfl, trivial⟩
        · have hF := bifF c5 hF
          refine vwp_skip ?_
          obtain rfl := Option.some.inj hF
          refine onlyE ?_
          exact weak_sub ⟨rfl, trivial⟩
      · rintro _ _ _ _ ⟨rfl, hw⟩
        refine ⟨_, _, _, hw, ?_⟩
        refine vwp_seq ?_
        refine vwp_region ?_
        refine vops_rd (rd_mvI rfl) rfl ?_
        refine vops_rd (rd_asI rfl) rfl ?_
        refine vops_nil ?_
        refine vwp_ret ?_
        obtain rfl := Option.some.inj hF
        refine fnR ?_
        exact weak_sub ⟨rfl, trivial⟩
  · rintro _ _ _ _ ⟨he, hw⟩
    refine ⟨_, _, _, hw, ?_⟩
    exact bodyQ_pure he [.int .i64 r] ⟨rfl, trivial⟩ (.int _ _) ⟨rfl, rfl⟩

theorem F_ref05_Floor_ok {p0 : Int} {p1 : Int} {r : Int} (hF : F_ref05_Floor p0 p1 = some r) (low : List AObj) :
    VCalls Try.prog 24 [.int .i64 p0, .int .i64 p1] low fun x low' => x = .int .i64 r ∧ low' = low := by
  refine vcalls_of_body (nt := 16) (rs := [.tmp 4]) Try.func24 rfl rfl (Nat.le_of_ble_eq_true rfl) rfl ?_
  refine vwp_monoW (Q' := FnE (fun E' lw lc => Weak E' lw lc [(4, .int .i64 r)] low [])) ?_ ?_
  · unfold F_ref05_Floor at hF
    refine vwp_seq ?_
    refine vwp_region ?_
    refine vops_rd (rd_asI rfl) rfl ?_
    refine vops_nil ?_
    refine vwp_seq ?_
    refine vwp_region ?_
    obtain ⟨x1, h2, hF⟩ := bnd hF
    refine vops_rd (rd_mvI rfl) rfl ?_
    refine vops_rd (rd_mvI rfl) rfl ?_
    refine vops_rd (rd_quo rfl rfl (quoI_some h2).1 (quoI_some h2).2) rfl ?_
    refine vops_rd (rd_asI rfl) rfl ?_
    refine vops_nil ?_
    refine vwp_seq ?_
    refine vwp_seq ?_
    refine vwp_region ?_
    obtain ⟨x3, h4, hF⟩ := bnd hF
    refine vops_rd (rd_mvI rfl) rfl ?_
    refine vops_rd (rd_mvI rfl) rfl ?_
    refine vops_rd (rd_rem rfl rfl (remI_some h4).1 (remI_some h4).2) rfl ?_
    refine vops_rd (rd_lss rfl rfl) rfl ?_
    refine vops_nil ?_
    obtain ⟨o5, ho5, hF⟩ := bnd hF
    refine vwp_monoW (Q' := (fun o5 => OnlyE .normal (fun E' lw lc => Weak E' lw lc [(5, .int .i64 o5)] low [])) o5) ?_ ?_
    · replace hF := ho5
      refine vwp_cond rfl (fun c6 => ?_) (fun c6 => ?_)
      · have hF := bifT c6 hF
        refine vwp_region ?_
        refine vops_rd (rd_mvI rfl) rfl ?_
        refine vops_rd (rd_sub rfl rfl rfl) rfl ?_
        refine vops_rd (rd_asI rfl) rfl ?_
        refine vops_nil ?_
        obtain rfl := Option.some.inj hF
        refine onlyE ?_
        exact weak_sub ⟨rfl, trivial⟩
      · have hF := bifF c6 hF
        refine vwp_skip ?_
        obtain rfl := Option.some.inj hF
        refine onlyE ?_
        exact weak_sub ⟨rfl, trivial⟩
    · rintro _ _ _ _ ⟨rfl, hw⟩
      refine ⟨_, _, _, hw, ?_⟩
      refine vwp_seq ?_
      refine vwp_region ?_
      refine vops_rd (rd_mvI rfl) rfl ?_
      refine vops_rd (rd_asI rfl) rfl ?_
      refine vops_nil ?_
      refine vwp_ret ?_
      obtain rfl := Option.some.inj hF
      refine fnR ?_
      exact weak_sub ⟨rfl, trivial⟩
  · rintro _ _ _ _ ⟨he, hw⟩
    refine ⟨_, _, _, hw, ?_⟩
    exact bodyQ_pure he [.int .i64 r] ⟨rfl, trivial⟩ (.int _ _) ⟨rfl, rfl⟩

theorem F_ref05_Ceil_ok {p0 : Int} {p1 : Int} {r : Int} (hF : F_ref05_Ceil p0 p1 = some r) (low : List AObj) :
    VCalls Try.prog 33 [.int .i64 p0, .int .i64 p1] low fun x low' => x = .int .i64 r ∧ low' = low := by
  refine vcalls_of_body (nt := 10) (rs := [.tmp 4]) Try.func33 rfl rfl (Nat.le_of_ble_eq_true rfl) rfl ?_
  refine vwp_monoW (Q' := FnE (fun E' lw lc => Weak E' lw lc [(4, .int .i64 r)] low [])) ?_ ?_
  · unfold F_ref05_Ceil at hF
    refine vwp_seq ?_
    refine vwp_region ?_
    refine vops_rd (rd_asI rfl) rfl ?_
    refine vops_nil ?_
    refine vwp_seq ?_
    refine vwp_region ?_
    obtain ⟨x1, h2, hF⟩ := bnd hF
    refine vops_rd (rd_mvI rfl) rfl ?_
    refine vops_rd (rd_neg rfl rfl) rfl ?_
    refine vops_rd (rd_mvI rfl) rfl ?_
    refine vops_efE (vef_callP rfl Try.call24 (F_ref05_Floor_ok h2 _)) rfl ?_
    refine vops_rd (rd_neg rfl rfl) rfl ?_
    refine vops_rd (rd_asI rfl) rfl ?_
    refine vops_nil ?_
    refine vwp_ret ?_
    obtain rfl := Option.some.inj hF
    refine fnR ?_
    exact weak_sub ⟨rfl, trivial⟩
  · rintro _ _ _ _ ⟨he, hw⟩
    refine ⟨_, _, _, hw, ?_⟩
    exact bodyQ_pure he [.int .i64 r] ⟨rfl, trivial⟩ (.int _ _) ⟨rfl, rfl⟩

theorem F_ref05_Gassy_ok {p0 : Int} {r : Bool} (hF : F_ref05_Gassy p0 = some r) (low : List AObj) :
    VCalls Try.prog 34 [.int .i64 p0] low fun x low' => x = .bool r ∧ low' = low := by
  refine vcalls_of_body (nt := 9) (rs := [.tmp 2]) Try.func34 rfl rfl (Nat.le_of_ble_eq_true rfl) rfl ?_
  refine vwp_monoW (Q' := FnE (fun E' lw lc => Weak E' lw lc [(2, .bool r)] low [])) ?_ ?_
  · unfold F_ref05_Gassy at hF
    refine vwp_seq ?_
    refine vwp_region ?_
    refine vops_rd (rd_asB rfl) rfl ?_
    refine vops_nil ?_
    refine vwp_seq ?_
    refine vwp_region ?_
    rcases Bool.eq_false_or_eq_true (decide (p0 = 1)) with c1 | c1
    · have hF := bifT c1 hF
      refine vops_rd (rd_mvI rfl) rfl ?_
      refine vops_rd (rd_eql rfl rfl) rfl ?_
      refine vops_rd (rd_mvB rfl) rfl ?_
      refine vops_skip rfl rfl (neT c1) rfl ?_
      refine vops_skip rfl rfl (neT c1) rfl ?_
      refine vops_rd (rd_pickT (congrArg PV.bool c1) rfl) rfl ?_
      refine vops_rd (rd_asB rfl) rfl ?_
      refine vops_nil ?_
      refine vwp_ret ?_
      obtain rfl := Option.some.inj hF
      refine fnR ?_
      exact weak_sub ⟨rfl, trivial⟩
    · have hF := bifF c1 hF
      refine vops_rd (rd_mvI rfl) rfl ?_
      refine vops_rd (rd_eql rfl rfl) rfl ?_
      refine vops_rd (rd_mvB rfl) rfl ?_
      refine vops_take rfl (congrArg PV.bool c1) ?_
      refine vops_rd (rd_mvI rfl) rfl ?_
      refine vops_take rfl (congrArg PV.bool c1) ?_
      refine vops_rd (rd_eql rfl rfl) rfl ?_
      refine vops_rd (rd_pickF (congrArg PV.bool c1) rfl) rfl ?_
      refine vops_rd (rd_asB rfl) rfl ?_
      refine vops_nil ?_
      refine vwp_ret ?_
      obtain rfl := Option.some.inj hF
      refine fnR ?_
      exact weak_sub ⟨rfl, trivial⟩
  · rintro _ _ _ _ ⟨he, hw⟩
    refine ⟨_, _, _, hw, ?_⟩
    exact bodyQ_pure he [.bool r] ⟨rfl, trivial⟩ (.bool _) ⟨rfl, rfl⟩

theorem F_ref05_Value_ok {p0 : T_Sensor} {p1 : Int} {r : T_Span} (hF : F_ref05_Value p0 p1 = some r) (low : List AObj) :
    VCalls Try.prog 16 [.agg [.int .i64 p0.Address, .int .i64 p0.Kind, .int .i64 p0.Target, .int .i64 p0.Offset, .int .i64 p0.Scale, .int .i64 p0.Error, .int .i64 p0.Drift, .int .i64 p0.Life], .int .i64 p1] low fun x low' => x = .agg [.int .i64 r.Low, .int .i64 r.High] ∧ low' = low := by
  refine vcalls_of_body (nt := 67) (rs := [.cell 4 33]) Try.func16 rfl rfl (Nat.le_of_ble_eq_true rfl) rfl ?_
  refine vwp_monoW (Q' := FnE (fun E' lw lc => Weak E' lw lc [(4, .ptr (low.length + 0) 0 0 0)] low [⟨33, 2, [.agg [.int .i64 r.Low, .int .i64 r.High]], 0⟩])) ?_ ?_
  · unfold F_ref05_Value at hF
    refine vwp_seq ?_
    refine vwp_region ?_
    refine vops_efE (vef_boxN rfl rfl (v := .agg [.int .i64 p0.Address, .int .i64 p0.Kind, .int .i64 p0.Target, .int .i64 p0.Offset, .int .i64 p0.Scale, .int .i64 p0.Error, .int .i64 p0.Drift, .int .i64 p0.Life]) rfl rfl (Nat.succ_pos _) rfl rfl) rfl ?_
    refine vops_efE (vef_allocN rfl rfl tz_33 rfl rfl (Nat.succ_pos _) rfl) rfl ?_
    refine vops_nil ?_
    refine vwp_seq ?_
    refine vwp_seq ?_
    obtain ⟨o1, ho1, hF⟩ := bnd hF
    refine vwp_monoW (Q' := (fun o1 => OnlyE .normal (fun E' lw lc => Weak E' lw lc [(1, .int .i64 p1), (2, .ptr (low.length + 0) 0 0 0), (4, .ptr (low.length + 1) 0 0 0), (14, .bool o1)] low [⟨24, 8, [.agg [.int .i64 p0.Address, .int .i64 p0.Kind, .int .i64 p0.Target, .int .i64 p0.Offset, .int .i64 p0.Scale, .int .i64 p0.Error, .int .i64 p0.Drift, .int .i64 p0.Life]], 0⟩, ⟨33, 2, [.agg [.int .i64 0, .int .i64 0]], 0⟩])) o1) ?_ ?_
    · replace hF := ho1
      refine vwp_region ?_
      obtain ⟨x2, h3, hF⟩ := bnd hF
      rcases Bool.eq_false_or_eq_true (decide (x2 ≠ 0)) with c4 | c4
      · have hF := bifT c4 hF
        refine vops_rd (rd_loadN (ds := [.int .i64 p0.Address, .int .i64 p0.Kind, .int .i64 p0.Target, .int .i64 p0.Offset, .int .i64 p0.Scale, .int .i64 p0.Error, .int .i64 p0.Drift, .int .i64 p0.Life]) rfl (getO_N rfl rfl) rfl ta_24 ts_24 rfl rfl rfl) rfl ?_
        refine vops_efE (vef_callP rfl Try.call12 (F_ref05_Check_ok h3 _)) rfl ?_
        refine vops_rd (rd_neq rfl rfl) rfl ?_
        refine vops_rd (rd_mvB rfl) rfl ?_
        refine vops_skip rfl rfl (neT c4) rfl ?_
        refine vops_skip rfl rfl (neT c4) rfl ?_
        refine vops_skip rfl rfl (neT c4) rfl ?_
        refine vops_rd (rd_pickT (congrArg PV.bool c4) rfl) rfl ?_
        refine vops_nil ?_
        obtain rfl := Option.some.inj hF
        refine onlyE ?_
        exact weak_sub ⟨rfl, rfl, rfl, rfl, trivial⟩
      · have hF := bifF c4 hF
        obtain ⟨x5, h6, hF⟩ := bnd hF
        refine vops_rd (rd_loadN (ds := [.int .i64 p0.Address, .int .i64 p0.Kind, .int .i64 p0.Target, .int .i64 p0.Offset, .int .i64 p0.Scale, .int .i64 p0.Error, .int .i64 p0.Drift, .int .i64 p0.Life]) rfl (getO_N rfl rfl) rfl ta_24 ts_24 rfl rfl rfl) rfl ?_
        refine vops_efE (vef_callP rfl Try.call12 (F_ref05_Check_ok h3 _)) rfl ?_
        refine vops_rd (rd_neq rfl rfl) rfl ?_
        refine vops_rd (rd_mvB rfl) rfl ?_
        refine vops_take rfl (congrArg PV.bool c4) ?_
        refine vops_rd (rd_mvI rfl) rfl ?_
        refine vops_take rfl (congrArg PV.bool c4) ?_
        refine vops_efE (vef_callP rfl Try.call29 (F_ref05_in_ok h6 _)) rfl ?_
        refine vops_take rfl (congrArg PV.bool c4) ?_
        refine vops_rd (rd_not rfl) rfl ?_
        refine vops_rd (rd_pickF (congrArg PV.bool c4) rfl) rfl ?_
        refine vops_nil ?_
        obtain rfl := Option.some.inj hF
        refine onlyE ?_
        exact weak_sub ⟨rfl, rfl, rfl, rfl, trivial⟩
    · rintro _ _ _ _ ⟨rfl, hw⟩
      refine ⟨_, _, _, hw, ?_⟩
      refine vwp_cond rfl (fun c7 => ?_) (fun c7 => ?_)
      · have hF := bifT c7 hF
        refine vwp_seq ?_
        refine vwp_region ?_
        obtain ⟨x8, h9, hF⟩ := bnd hF
        refine vops_efE (vef_callP rfl Try.call30 (F_ref05_Nothing_ok h9 _)) rfl ?_
        refine vops_efE (vef_store (p := .agg [.int .i64 x8.Low, .int .i64 x8.High]) (e' := .agg [.int .i64 x8.Low, .int .i64 x8.High]) rfl (getO_N rfl rfl) rfl rfl ts_33 rfl (nt_ne rfl) rfl (Nat.le_of_ble_eq_true rfl) rfl (setO_N rfl rfl)) rfl ?_
        refine vops_nil ?_
        refine vwp_ret ?_
        obtain rfl := Option.some.inj hF
        refine fnR ?_
        exact weak_pick rfl [(1, 0)] (by decide) ⟨rn_ptr 0 1 rfl rfl, trivial⟩ ⟨⟨_, rfl, rfl, .same _ _ _ _ (ltObj_es ⟨(lt_agg ⟨.int _ _, .int _ _, trivial⟩), trivial⟩)⟩, trivial⟩
      · have hF := bifF c7 hF
        refine vwp_skip ?_
        refine vwp_seq ?_
        refine vwp_seq ?_
        refine vwp_region ?_
        obtain ⟨x10, h11, hF⟩ := bnd hF
        refine vops_rd (rd_fieldAddr rfl tf_24_1 ts_3 (by decide)) rfl ?_
        refine vops_rd (rd_load1 rfl (getO_N rfl rfl) rfl ta_3 rfl) rfl ?_
        refine vops_efE (vef_callP rfl Try.call32 (F_ref05_Stately_ok h11 _)) rfl ?_
        refine vops_nil ?_
        refine vwp_cond rfl (fun c12 => ?_) (fun c12 => ?_)
        · have hF := bifT c12 hF
          refine vwp_seq ?_
          refine vwp_region ?_
          refine vops_rd (rd_asI rfl) rfl ?_
          refine vops_nil ?_
          refine vwp_seq ?_
          refine vwp_seq ?_
          refine vwp_region ?_
          refine vops_rd (rd_fieldAddr rfl tf_24_1 ts_3 (by decide)) rfl ?_
          refine vops_rd (rd_load1 rfl (getO_N rfl rfl) rfl ta_3 rfl) rfl ?_
          refine vops_rd (rd_eql rfl rfl) rfl ?_
          refine vops_nil ?_
          obtain ⟨o13, ho13, hF⟩ := bnd hF
          refine vwp_monoW (Q' := (fun o13 => OnlyE .normal (fun E' lw lc => Weak E' lw lc [(1, .int .i64 p1), (2, .ptr (low.length + 0) 0 0 0), (4, .ptr (low.length + 1) 0 0 0), (5, .int .i64 o13)] low [⟨24, 8, [.agg [.int .i64 p0.Address, .int .i64 p0.Kind, .int .i64 p0.Target, .int .i64 p0.Offset, .int .i64 p0.Scale, .int .i64 p0.Error, .int .i64 p0.Drift, .int .i64 p0.Life]], 0⟩, ⟨33, 2, [.agg [.int .i64 0, .int .i64 0]], 0⟩])) o13) ?_ ?_
          · replace hF := ho13
            refine vwp_cond rfl (fun c14 => ?_) (fun c14 => ?_)
            · have hF := bifT c14 hF
              refine vwp_region ?_
              refine vops_rd (rd_asI rfl) rfl ?_
              refine vops_nil ?_
              obtain rfl := Option.some.inj hF
              refine onlyE ?_
              exact weak_sub ⟨rfl, rfl, rfl, rfl, trivial⟩
            · have hF := bifF c14 hF
              refine vwp_skip ?_
              obtain rfl := Option.some.inj hF
              refine onlyE ?_
              exact weak_sub ⟨rfl, rfl, rfl, rfl, trivial⟩
          · rintro _ _ _ _ ⟨rfl, hw⟩
            refine ⟨_, _, _, hw, ?_⟩
            refine vwp_seq ?_
            refine vwp_seq ?_
            refine vwp_region ?_
            refine vops_rd (rd_fieldAddr rfl tf_24_1 ts_3 (by decide)) rfl ?_
            refine vops_rd (rd_load1 rfl (getO_N rfl rfl) rfl ta_3 rfl) rfl ?_
            refine vops_rd (rd_eql rfl rfl) rfl ?_
            refine vops_nil ?_
            obtain ⟨o15, ho15, hF⟩ := bnd hF
            refine vwp_monoW (Q' := (fun o15 => OnlyE .normal (fun E' lw lc => Weak E' lw lc [(1, .int .i64 p1), (4, .ptr (low.length + 0) 0 0 0), (5, .int .i64 o15)] low [⟨33, 2, [.agg [.int .i64 0, .int .i64 0]], 0⟩])) o15) ?_ ?_
            · replace hF := ho15
              refine vwp_cond rfl (fun c16 => ?_) (fun c16 => ?_)
              · have hF := bifT c16 hF
                refine vwp_region ?_
                refine vops_rd (rd_asI rfl) rfl ?_
                refine vops_nil ?_
                obtain rfl := Option.some.inj hF
                refine onlyE ?_
                exact weak_pick rfl [(1, 0)] (by decide) ⟨rn_low rfl (.int _ _), rn_ptr 0 1 rfl rfl, rn_low rfl (.int _ _), trivial⟩ ⟨⟨_, rfl, rfl, .same _ _ _ _ (ltObj_es ⟨(lt_agg ⟨.int _ _, .int _ _, trivial⟩), trivial⟩)⟩, trivial⟩
              · have hF := bifF c16 hF
                refine vwp_skip ?_
                obtain rfl := Option.some.inj hF
                refine onlyE ?_
                exact weak_pick rfl [(1, 0)] (by decide) ⟨rn_low rfl (.int _ _), rn_ptr 0 1 rfl rfl, rn_low rfl (.int _ _), trivial⟩ ⟨⟨_, rfl, rfl, .same _ _ _ _ (ltObj_es ⟨(lt_agg ⟨.int _ _, .int _ _, trivial⟩), trivial⟩)⟩, trivial⟩
            · rintro _ _ _ _ ⟨rfl, hw⟩
              refine ⟨_, _, _, hw, ?_⟩
              refine vwp_seq ?_
              refine vwp_seq ?_
              refine vwp_region ?_
              refine vops_rd (rd_mvI rfl) rfl ?_
              refine vops_rd (rd_mvI rfl) rfl ?_
              refine vops_rd (rd_gtr rfl rfl) rfl ?_
              refine vops_nil ?_
              refine vwp_cond rfl (fun c17 => ?_) (fun c17 => ?_)
              · have hF := bifT c17 hF
                refine vwp_seq ?_
                refine vwp_region ?_
                obtain ⟨x18, h19, hF⟩ := bnd hF
                refine vops_efE (vef_callP rfl Try.call30 (F_ref05_Nothing_ok h19 _)) rfl ?_
                refine vops_efE (vef_store (p := .agg [.int .i64 x18.Low, .int .i64 x18.High]) (e' := .agg [.int .i64 x18.Low, .int .i64 x18.High]) rfl (getO_N rfl rfl) rfl rfl ts_33 rfl (nt_ne rfl) rfl (Nat.le_of_ble_eq_true rfl) rfl (setO_N rfl rfl)) rfl ?_
                refine vops_nil ?_
                refine vwp_ret ?_
                obtain rfl := Option.some.inj hF
                refine fnR ?_
                exact weak_sub ⟨rfl, trivial⟩
              · have hF := bifF c17 hF
                refine vwp_skip ?_
                refine vwp_seq ?_
                refine vwp_region ?_
                refine vops_rd (rd_mvI rfl) rfl ?_
                refine vops_rd (rd_mvI rfl) rfl ?_
                refine vops_rd (rd_build (vs := [(0, .int .i64 p1), (1, .int .i64 p1)]) (ds := [.int .i64 p1, .int .i64 p1]) tz_33 rfl rfl tp_33 ⟨rfl, rfl, rfl, rfl, trivial⟩ (nt_all2 rfl) rfl) rfl ?_
                refine vops_efE (vef_store (p := .agg [.int .i64 p1, .int .i64 p1]) (e' := .agg [.int .i64 p1, .int .i64 p1]) rfl (getO_N rfl rfl) rfl rfl ts_33 rfl (nt_ne rfl) rfl (Nat.le_of_ble_eq_true rfl) rfl (setO_N rfl rfl)) rfl ?_
                refine vops_nil ?_
                refine vwp_ret ?_
                obtain rfl := Option.some.inj hF
                refine fnR ?_
                exact weak_sub ⟨rfl, trivial⟩
        · have hF := bifF c12 hF
          refine vwp_skip ?_
          refine vwp_seq ?_
          obtain ⟨x20, h21, hF⟩ := bnd hF
          obtain ⟨x22, h23, hF⟩ := bnd hF
          refine vwp_drawn [[], [0], [], [2], [], [2, 3, 4], [2, 3, 4, 5], [0, 1, 2, 3, 4, 5, 6], [], [8], [0, 1, 2, 3, 4, 5, 6, 7, 8, 9], [], [11], [], [13], [], [13, 14, 15], [2, 3, 4, 5, 6, 13, 14, 15, 16], [2, 3, 4, 5, 6, 11, 12, 13, 14, 15, 16, 17], [], [19], [2, 3, 4, 5, 6, 11, 12, 13, 14, 15, 16, 17, 18, 19, 20], [0, 1, 2, 3, 4, 5, 6, 7, 8, 9, 10, 11, 12, 13, 14, 15, 16, 17, 18, 19, 20, 21], [], [0, 1, 2, 3, 4, 5, 6, 7, 8, 9, 10, 11, 12, 13, 14, 15, 16, 17, 18, 19, 20, 21, 22, 23]] [false, false, false, false, false, false, false, false, false, false, false, false, false, false, false, false, false, false, false, false, false, false, false, true, true] [(low, [⟨24, 8, [.agg [.int .i64 p0.Address, .int .i64 p0.Kind, .int .i64 p0.Target, .int .i64 p0.Offset, .int .i64 p0.Scale, .int .i64 p0.Error, .int .i64 p0.Drift, .int .i64 p0.Life]], 0⟩, ⟨33, 2, [.agg [.int .i64 0, .int .i64 0]], 0⟩]), (low, [⟨24, 8, [.agg [.int .i64 p0.Address, .int .i64 p0.Kind, .int .i64 p0.Target, .int .i64 p0.Offset, .int .i64 p0.Scale, .int .i64 p0.Error, .int .i64 p0.Drift, .int .i64 p0.Life]], 0⟩, ⟨33, 2, [.agg [.int .i64 0, .int .i64 0]], 0⟩, ⟨33, 2, [.agg [.int .i64 0, .int .i64 0]], 0⟩]), (low, [⟨24, 8, [.agg [.int .i64 p0.Address, .int .i64 p0.Kind, .int .i64 p0.Target, .int .i64 p0.Offset, .int .i64 p0.Scale, .int .i64 p0.Error, .int .i64 p0.Drift, .int .i64 p0.Life]], 0⟩, ⟨33, 2, [.agg [.int .i64 0, .int .i64 0]], 0⟩, ⟨33, 2, [.agg [.int .i64 (IntKind.i64.wrap ((IntKind.i64.wrap (p0.Offset + x20)) - p0.Error)), .int .i64 (IntKind.i64.wrap ((IntKind.i64.wrap (p0.Offset + x22)) + p0.Error))]], 0⟩])] mixed (by kernel_rfl) rfl (lenAll (all1 rfl (all1 rfl (all1 rfl all0)))) rfl (low, [⟨24, 8, [.agg [.int .i64 p0.Address, .int .i64 p0.Kind, .int .i64 p0.Target, .int .i64 p0.Offset, .int .i64 p0.Scale, .int .i64 p0.Error, .int .i64 p0.Drift, .int .i64 p0.Life]], 0⟩, ⟨33, 2, [.agg [.int .i64 0, .int .i64 0]], 0⟩, ⟨33, 2, [.agg [.int .i64 (IntKind.i64.wrap ((IntKind.i64.wrap (p0.Offset + x20)) - p0.Error)), .int .i64 (IntKind.i64.wrap ((IntKind.i64.wrap (p0.Offset + x22)) + p0.Error))]], 0⟩]) rfl rfl ?_
          refine dops_rdW [(low, [⟨24, 8, [.agg [.int .i64 p0.Address, .int .i64 p0.Kind, .int .i64 p0.Target, .int .i64 p0.Offset, .int .i64 p0.Scale, .int .i64 p0.Error, .int .i64 p0.Drift, .int .i64 p0.Life]], 0⟩, ⟨33, 2, [.agg [.int .i64 0, .int .i64 0]], 0⟩]), (low, [⟨24, 8, [.agg [.int .i64 p0.Address, .int .i64 p0.Kind, .int .i64 p0.Target, .int .i64 p0.Offset, .int .i64 p0.Scale, .int .i64 p0.Error, .int .i64 p0.Drift, .int .i64 p0.Life]], 0⟩, ⟨33, 2, [.agg [.int .i64 0, .int .i64 0]], 0⟩, ⟨33, 2, [.agg [.int .i64 0, .int .i64 0]], 0⟩])] rfl rfl (all1 (VRd.ntl (rd_fieldAddr rfl tf_24_3 ts_3 (by decide))) (all1 (VRd.ntl (rd_fieldAddr rfl tf_24_3 ts_3 (by decide))) all0)) ?_
          refine dops_rdW [(low, [⟨24, 8, [.agg [.int .i64 p0.Address, .int .i64 p0.Kind, .int .i64 p0.Target, .int .i64 p0.Offset, .int .i64 p0.Scale, .int .i64 p0.Error, .int .i64 p0.Drift, .int .i64 p0.Life]], 0⟩, ⟨33, 2, [.agg [.int .i64 0, .int .i64 0]], 0⟩]), (low, [⟨24, 8, [.agg [.int .i64 p0.Address, .int .i64 p0.Kind, .int .i64 p0.Target, .int .i64 p0.Offset, .int .i64 p0.Scale, .int .i64 p0.Error, .int .i64 p0.Drift, .int .i64 p0.Life]], 0⟩, ⟨33, 2, [.agg [.int .i64 0, .int .i64 0]], 0⟩, ⟨33, 2, [.agg [.int .i64 0, .int .i64 0]], 0⟩])] rfl rfl (all1 (VRd.ntl (rd_load1 rfl (getO_N rfl rfl) rfl ta_3 rfl)) (all1 (VRd.ntl (rd_load1 rfl (getO_N rfl rfl) rfl ta_3 rfl)) all0)) ?_
          refine dops_rdW [(low, [⟨24, 8, [.agg [.int .i64 p0.Address, .int .i64 p0.Kind, .int .i64 p0.Target, .int .i64 p0.Offset, .int .i64 p0.Scale, .int .i64 p0.Error, .int .i64 p0.Drift, .int .i64 p0.Life]], 0⟩, ⟨33, 2, [.agg [.int .i64 0, .int .i64 0]], 0⟩]), (low, [⟨24, 8, [.agg [.int .i64 p0.Address, .int .i64 p0.Kind, .int .i64 p0.Target, .int .i64 p0.Offset, .int .i64 p0.Scale, .int .i64 p0.Error, .int .i64 p0.Drift, .int .i64 p0.Life]], 0⟩, ⟨33, 2, [.agg [.int .i64 0, .int .i64 0]], 0⟩, ⟨33, 2, [.agg [.int .i64 0, .int .i64 0]], 0⟩])] rfl rfl (all1 (VRd.ntl (rd_fieldAddr rfl tf_24_4 ts_3 (by decide))) (all1 (VRd.ntl (rd_fieldAddr rfl tf_24_4 ts_3 (by decide))) all0)) ?_
          refine dops_rdW [(low, [⟨24, 8, [.agg [.int .i64 p0.Address, .int .i64 p0.Kind, .int .i64 p0.Target, .int .i64 p0.Offset, .int .i64 p0.Scale, .int .i64 p0.Error, .int .i64 p0.Drift, .int .i64 p0.Life]], 0⟩, ⟨33, 2, [.agg [.int .i64 0, .int .i64 0]], 0⟩]), (low, [⟨24, 8, [.agg [.int .i64 p0.Address, .int .i64 p0.Kind, .int .i64 p0.Target, .int .i64 p0.Offset, .int .i64 p0.Scale, .int .i64 p0.Error, .int .i64 p0.Drift, .int .i64 p0.Life]], 0⟩, ⟨33, 2, [.agg [.int .i64 0, .int .i64 0]], 0⟩, ⟨33, 2, [.agg [.int .i64 0, .int .i64 0]], 0⟩])] rfl rfl (all1 (VRd.ntl (rd_load1 rfl (getO_N rfl rfl) rfl ta_3 rfl)) (all1 (VRd.ntl (rd_load1 rfl (getO_N rfl rfl) rfl ta_3 rfl)) all0)) ?_
          refine dops_rdW [(low, [⟨24, 8, [.agg [.int .i64 p0.Address, .int .i64 p0.Kind, .int .i64 p0.Target, .int .i64 p0.Offset, .int .i64 p0.Scale, .int .i64 p0.Error, .int .i64 p0.Drift, .int .i64 p0.Life]], 0⟩, ⟨33, 2, [.agg [.int .i64 0, .int .i64 0]], 0⟩]), (low, [⟨24, 8, [.agg [.int .i64 p0.Address, .int .i64 p0.Kind, .int .i64 p0.Target, .int .i64 p0.Offset, .int .i64 p0.Scale, .int .i64 p0.Error, .int .i64 p0.Drift, .int .i64 p0.Life]], 0⟩, ⟨33, 2, [.agg [.int .i64 0, .int .i64 0]], 0⟩, ⟨33, 2, [.agg [.int .i64 0, .int .i64 0]], 0⟩])] rfl rfl (all1 (VRd.ntl (rd_mvI rfl)) (all1 (VRd.ntl (rd_mvI rfl)) all0)) ?_
          refine dops_rdW [(low, [⟨24, 8, [.agg [.int .i64 p0.Address, .int .i64 p0.Kind, .int .i64 p0.Target, .int .i64 p0.Offset, .int .i64 p0.Scale, .int .i64 p0.Error, .int .i64 p0.Drift, .int .i64 p0.Life]], 0⟩, ⟨33, 2, [.agg [.int .i64 0, .int .i64 0]], 0⟩]), (low, [⟨24, 8, [.agg [.int .i64 p0.Address, .int .i64 p0.Kind, .int .i64 p0.Target, .int .i64 p0.Offset, .int .i64 p0.Scale, .int .i64 p0.Error, .int .i64 p0.Drift, .int .i64 p0.Life]], 0⟩, ⟨33, 2, [.agg [.int .i64 0, .int .i64 0]], 0⟩, ⟨33, 2, [.agg [.int .i64 0, .int .i64 0]], 0⟩])] rfl rfl (all1 (VRd.ntl (rd_mul rfl rfl rfl)) (all1 (VRd.ntl (rd_mul rfl rfl rfl)) all0)) ?_
          refine dops_rdW [(low, [⟨24, 8, [.agg [.int .i64 p0.Address, .int .i64 p0.Kind, .int .i64 p0.Target, .int .i64 p0.Offset, .int .i64 p0.Scale, .int .i64 p0.Error, .int .i64 p0.Drift, .int .i64 p0.Life]], 0⟩, ⟨33, 2, [.agg [.int .i64 0, .int .i64 0]], 0⟩]), (low, [⟨24, 8, [.agg [.int .i64 p0.Address, .int .i64 p0.Kind, .int .i64 p0.Target, .int .i64 p0.Offset, .int .i64 p0.Scale, .int .i64 p0.Error, .int .i64 p0.Drift, .int .i64 p0.Life]], 0⟩, ⟨33, 2, [.agg [.int .i64 0, .int .i64 0]], 0⟩, ⟨33, 2, [.agg [.int .i64 0, .int .i64 0]], 0⟩])] rfl rfl (all1 (nt_of (vef_callP rfl Try.call24 (F_ref05_Floor_ok h21 _))) (all1 (nt_of (vef_callP rfl Try.call24 (F_ref05_Floor_ok h21 _))) all0)) ?_
          refine dops_rdW [(low, [⟨24, 8, [.agg [.int .i64 p0.Address, .int .i64 p0.Kind, .int .i64 p0.Target, .int .i64 p0.Offset, .int .i64 p0.Scale, .int .i64 p0.Error, .int .i64 p0.Drift, .int .i64 p0.Life]], 0⟩, ⟨33, 2, [.agg [.int .i64 0, .int .i64 0]], 0⟩]), (low, [⟨24, 8, [.agg [.int .i64 p0.Address, .int .i64 p0.Kind, .int .i64 p0.Target, .int .i64 p0.Offset, .int .i64 p0.Scale, .int .i64 p0.Error, .int .i64 p0.Drift, .int .i64 p0.Life]], 0⟩, ⟨33, 2, [.agg [.int .i64 0, .int .i64 0]], 0⟩, ⟨33, 2, [.agg [.int .i64 0, .int .i64 0]], 0⟩])] rfl rfl (all1 (VRd.ntl (rd_add rfl rfl rfl)) (all1 (VRd.ntl (rd_add rfl rfl rfl)) all0)) ?_
          refine dops_rdW [(low, [⟨24, 8, [.agg [.int .i64 p0.Address, .int .i64 p0.Kind, .int .i64 p0.Target, .int .i64 p0.Offset, .int .i64 p0.Scale, .int .i64 p0.Error, .int .i64 p0.Drift, .int .i64 p0.Life]], 0⟩, ⟨33, 2, [.agg [.int .i64 0, .int .i64 0]], 0⟩]), (low, [⟨24, 8, [.agg [.int .i64 p0.Address, .int .i64 p0.Kind, .int .i64 p0.Target, .int .i64 p0.Offset, .int .i64 p0.Scale, .int .i64 p0.Error, .int .i64 p0.Drift, .int .i64 p0.Life]], 0⟩, ⟨33, 2, [.agg [.int .i64 0, .int .i64 0]], 0⟩, ⟨33, 2, [.agg [.int .i64 0, .int .i64 0]], 0⟩])] rfl rfl (all1 (VRd.ntl (rd_fieldAddr rfl tf_24_5 ts_3 (by decide))) (all1 (VRd.ntl (rd_fieldAddr rfl tf_24_5 ts_3 (by decide))) all0)) ?_
          refine dops_rdW [(low, [⟨24, 8, [.agg [.int .i64 p0.Address, .int .i64 p0.Kind, .int .i64 p0.Target, .int .i64 p0.Offset, .int .i64 p0.Scale, .int .i64 p0.Error, .int .i64 p0.Drift, .int .i64 p0.Life]], 0⟩, ⟨33, 2, [.agg [.int .i64 0, .int .i64 0]], 0⟩]), (low, [⟨24, 8, [.agg [.int .i64 p0.Address, .int .i64 p0.Kind, .int .i64 p0.Target, .int .i64 p0.Offset, .int .i64 p0.Scale, .int .i64 p0.Error, .int .i64 p0.Drift, .int .i64 p0.Life]], 0⟩, ⟨33, 2, [.agg [.int .i64 0, .int .i64 0]], 0⟩, ⟨33, 2, [.agg [.int .i64 0, .int .i64 0]], 0⟩])] rfl rfl (all1 (VRd.ntl (rd_load1 rfl (getO_N rfl rfl) rfl ta_3 rfl)) (all1 (VRd.ntl (rd_load1 rfl (getO_N rfl rfl) rfl ta_3 rfl)) all0)) ?_
          refine dops_rdW [(low, [⟨24, 8, [.agg [.int .i64 p0.Address, .int .i64 p0.Kind, .int .i64 p0.Target, .int .i64 p0.Offset, .int .i64 p0.Scale, .int .i64 p0.Error, .int .i64 p0.Drift, .int .i64 p0.Life]], 0⟩, ⟨33, 2, [.agg [.int .i64 0, .int .i64 0]], 0⟩]), (low, [⟨24, 8, [.agg [.int .i64 p0.Address, .int .i64 p0.Kind, .int .i64 p0.Target, .int .i64 p0.Offset, .int .i64 p0.Scale, .int .i64 p0.Error, .int .i64 p0.Drift, .int .i64 p0.Life]], 0⟩, ⟨33, 2, [.agg [.int .i64 0, .int .i64 0]], 0⟩, ⟨33, 2, [.agg [.int .i64 0, .int .i64 0]], 0⟩])] rfl rfl (all1 (VRd.ntl (rd_sub rfl rfl rfl)) (all1 (VRd.ntl (rd_sub rfl rfl rfl)) all0)) ?_
          refine dops_rdW [(low, [⟨24, 8, [.agg [.int .i64 p0.Address, .int .i64 p0.Kind, .int .i64 p0.Target, .int .i64 p0.Offset, .int .i64 p0.Scale, .int .i64 p0.Error, .int .i64 p0.Drift, .int .i64 p0.Life]], 0⟩, ⟨33, 2, [.agg [.int .i64 0, .int .i64 0]], 0⟩]), (low, [⟨24, 8, [.agg [.int .i64 p0.Address, .int .i64 p0.Kind, .int .i64 p0.Target, .int .i64 p0.Offset, .int .i64 p0.Scale, .int .i64 p0.Error, .int .i64 p0.Drift, .int .i64 p0.Life]], 0⟩, ⟨33, 2, [.agg [.int .i64 0, .int .i64 0]], 0⟩, ⟨33, 2, [.agg [.int .i64 0, .int .i64 0]], 0⟩])] rfl rfl (all1 (VRd.ntl (rd_fieldAddr rfl tf_24_3 ts_3 (by decide))) (all1 (VRd.ntl (rd_fieldAddr rfl tf_24_3 ts_3 (by decide))) all0)) ?_
          refine dops_rdW [(low, [⟨24, 8, [.agg [.int .i64 p0.Address, .int .i64 p0.Kind, .int .i64 p0.Target, .int .i64 p0.Offset, .int .i64 p0.Scale, .int .i64 p0.Error, .int .i64 p0.Drift, .int .i64 p0.Life]], 0⟩, ⟨33, 2, [.agg [.int .i64 0, .int .i64 0]], 0⟩]), (low, [⟨24, 8, [.agg [.int .i64 p0.Address, .int .i64 p0.Kind, .int .i64 p0.Target, .int .i64 p0.Offset, .int .i64 p0.Scale, .int .i64 p0.Error, .int .i64 p0.Drift, .int .i64 p0.Life]], 0⟩, ⟨33, 2, [.agg [.int .i64 0, .int .i64 0]], 0⟩, ⟨33, 2, [.agg [.int .i64 0, .int .i64 0]], 0⟩])] rfl rfl (all1 (VRd.ntl (rd_load1 rfl (getO_N rfl rfl) rfl ta_3 rfl)) (all1 (VRd.ntl (rd_load1 rfl (getO_N rfl rfl) rfl ta_3 rfl)) all0)) ?_
          refine dops_rdW [(low, [⟨24, 8, [.agg [.int .i64 p0.Address, .int .i64 p0.Kind, .int .i64 p0.Target, .int .i64 p0.Offset, .int .i64 p0.Scale, .int .i64 p0.Error, .int .i64 p0.Drift, .int .i64 p0.Life]], 0⟩, ⟨33, 2, [.agg [.int .i64 0, .int .i64 0]], 0⟩]), (low, [⟨24, 8, [.agg [.int .i64 p0.Address, .int .i64 p0.Kind, .int .i64 p0.Target, .int .i64 p0.Offset, .int .i64 p0.Scale, .int .i64 p0.Error, .int .i64 p0.Drift, .int .i64 p0.Life]], 0⟩, ⟨33, 2, [.agg [.int .i64 0, .int .i64 0]], 0⟩, ⟨33, 2, [.agg [.int .i64 0, .int .i64 0]], 0⟩])] rfl rfl (all1 (VRd.ntl (rd_fieldAddr rfl tf_24_4 ts_3 (by decide))) (all1 (VRd.ntl (rd_fieldAddr rfl tf_24_4 ts_3 (by decide))) all0)) ?_
          refine dops_rdW [(low, [⟨24, 8, [.agg [.int .i64 p0.Address, .int .i64 p0.Kind, .int .i64 p0.Target, .int .i64 p0.Offset, .int .i64 p0.Scale, .int .i64 p0.Error, .int .i64 p0.Drift, .int .i64 p0.Life]], 0⟩, ⟨33, 2, [.agg [.int .i64 0, .int .i64 0]], 0⟩]), (low, [⟨24, 8, [.agg [.int .i64 p0.Address, .int .i64 p0.Kind, .int .i64 p0.Target, .int .i64 p0.Offset, .int .i64 p0.Scale, .int .i64 p0.Error, .int .i64 p0.Drift, .int .i64 p0.Life]], 0⟩, ⟨33, 2, [.agg [.int .i64 0, .int .i64 0]], 0⟩, ⟨33, 2, [.agg [.int .i64 0, .int .i64 0]], 0⟩])] rfl rfl (all1 (VRd.ntl (rd_load1 rfl (getO_N rfl rfl) rfl ta_3 rfl)) (all1 (VRd.ntl (rd_load1 rfl (getO_N rfl rfl) rfl ta_3 rfl)) all0)) ?_
          refine dops_rdW [(low, [⟨24, 8, [.agg [.int .i64 p0.Address, .int .i64 p0.Kind, .int .i64 p0.Target, .int .i64 p0.Offset, .int .i64 p0.Scale, .int .i64 p0.Error, .int .i64 p0.Drift, .int .i64 p0.Life]], 0⟩, ⟨33, 2, [.agg [.int .i64 0, .int .i64 0]], 0⟩]), (low, [⟨24, 8, [.agg [.int .i64 p0.Address, .int .i64 p0.Kind, .int .i64 p0.Target, .int .i64 p0.Offset, .int .i64 p0.Scale, .int .i64 p0.Error, .int .i64 p0.Drift, .int .i64 p0.Life]], 0⟩, ⟨33, 2, [.agg [.int .i64 0, .int .i64 0]], 0⟩, ⟨33, 2, [.agg [.int .i64 0, .int .i64 0]], 0⟩])] rfl rfl (all1 (VRd.ntl (rd_mvI rfl)) (all1 (VRd.ntl (rd_mvI rfl)) all0)) ?_
          refine dops_rdW [(low, [⟨24, 8, [.agg [.int .i64 p0.Address, .int .i64 p0.Kind, .int .i64 p0.Target, .int .i64 p0.Offset, .int .i64 p0.Scale, .int .i64 p0.Error, .int .i64 p0.Drift, .int .i64 p0.Life]], 0⟩, ⟨33, 2, [.agg [.int .i64 0, .int .i64 0]], 0⟩]), (low, [⟨24, 8, [.agg [.int .i64 p0.Address, .int .i64 p0.Kind, .int .i64 p0.Target, .int .i64 p0.Offset, .int .i64 p0.Scale, .int .i64 p0.Error, .int .i64 p0.Drift, .int .i64 p0.Life]], 0⟩, ⟨33, 2, [.agg [.int .i64 0, .int .i64 0]], 0⟩, ⟨33, 2, [.agg [.int .i64 0, .int .i64 0]], 0⟩])] rfl rfl (all1 (VRd.ntl (rd_mul rfl rfl rfl)) (all1 (VRd.ntl (rd_mul rfl rfl rfl)) all0)) ?_
          refine dops_rdW [(low, [⟨24, 8, [.agg [.int .i64 p0.Address, .int .i64 p0.Kind, .int .i64 p0.Target, .int .i64 p0.Offset, .int .i64 p0.Scale, .int .i64 p0.Error, .int .i64 p0.Drift, .int .i64 p0.Life]], 0⟩, ⟨33, 2, [.agg [.int .i64 0, .int .i64 0]], 0⟩]), (low, [⟨24, 8, [.agg [.int .i64 p0.Address, .int .i64 p0.Kind, .int .i64 p0.Target, .int .i64 p0.Offset, .int .i64 p0.Scale, .int .i64 p0.Error, .int .i64 p0.Drift, .int .i64 p0.Life]], 0⟩, ⟨33, 2, [.agg [.int .i64 0, .int .i64 0]], 0⟩, ⟨33, 2, [.agg [.int .i64 0, .int .i64 0]], 0⟩])] rfl rfl (all1 (nt_of (vef_callP rfl Try.call33 (F_ref05_Ceil_ok h23 _))) (all1 (nt_of (vef_callP rfl Try.call33 (F_ref05_Ceil_ok h23 _))) all0)) ?_
          refine dops_rdW [(low, [⟨24, 8, [.agg [.int .i64 p0.Address, .int .i64 p0.Kind, .int .i64 p0.Target, .int .i64 p0.Offset, .int .i64 p0.Scale, .int .i64 p0.Error, .int .i64 p0.Drift, .int .i64 p0.Life]], 0⟩, ⟨33, 2, [.agg [.int .i64 0, .int .i64 0]], 0⟩]), (low, [⟨24, 8, [.agg [.int .i64 p0.Address, .int .i64 p0.Kind, .int .i64 p0.Target, .int .i64 p0.Offset, .int .i64 p0.Scale, .int .i64 p0.Error, .int .i64 p0.Drift, .int .i64 p0.Life]], 0⟩, ⟨33, 2, [.agg [.int .i64 0, .int .i64 0]], 0⟩, ⟨33, 2, [.agg [.int .i64 0, .int .i64 0]], 0⟩])] rfl rfl (all1 (VRd.ntl (rd_add rfl rfl rfl)) (all1 (VRd.ntl (rd_add rfl rfl rfl)) all0)) ?_
          refine dops_rdW [(low, [⟨24, 8, [.agg [.int .i64 p0.Address, .int .i64 p0.Kind, .int .i64 p0.Target, .int .i64 p0.Offset, .int .i64 p0.Scale, .int .i64 p0.Error, .int .i64 p0.Drift, .int .i64 p0.Life]], 0⟩, ⟨33, 2, [.agg [.int .i64 0, .int .i64 0]], 0⟩]), (low, [⟨24, 8, [.agg [.int .i64 p0.Address, .int .i64 p0.Kind, .int .i64 p0.Target, .int .i64 p0.Offset, .int .i64 p0.Scale, .int .i64 p0.Error, .int .i64 p0.Drift, .int .i64 p0.Life]], 0⟩, ⟨33, 2, [.agg [.int .i64 0, .int .i64 0]], 0⟩, ⟨33, 2, [.agg [.int .i64 0, .int .i64 0]], 0⟩])] rfl rfl (all1 (VRd.ntl (rd_fieldAddr rfl tf_24_5 ts_3 (by decide))) (all1 (VRd.ntl (rd_fieldAddr rfl tf_24_5 ts_3 (by decide))) all0)) ?_
          refine dops_rdW [(low, [⟨24, 8, [.agg [.int .i64 p0.Address, .int .i64 p0.Kind, .int .i64 p0.Target, .int .i64 p0.Offset, .int .i64 p0.Scale, .int .i64 p0.Error, .int .i64 p0.Drift, .int .i64 p0.Life]], 0⟩, ⟨33, 2, [.agg [.int .i64 0, .int .i64 0]], 0⟩]), (low, [⟨24, 8, [.agg [.int .i64 p0.Address, .int .i64 p0.Kind, .int .i64 p0.Target, .int .i64 p0.Offset, .int .i64 p0.Scale, .int .i64 p0.Error, .int .i64 p0.Drift, .int .i64 p0.Life]], 0⟩, ⟨33, 2, [.agg [.int .i64 0, .int .i64 0]], 0⟩, ⟨33, 2, [.agg [.int .i64 0, .int .i64 0]], 0⟩])] rfl rfl (all1 (VRd.ntl (rd_load1 rfl (getO_N rfl rfl) rfl ta_3 rfl)) (all1 (VRd.ntl (rd_load1 rfl (getO_N rfl rfl) rfl ta_3 rfl)) all0)) ?_
          refine dops_rdW [(low, [⟨24, 8, [.agg [.int .i64 p0.Address, .int .i64 p0.Kind, .int .i64 p0.Target, .int .i64 p0.Offset, .int .i64 p0.Scale, .int .i64 p0.Error, .int .i64 p0.Drift, .int .i64 p0.Life]], 0⟩, ⟨33, 2, [.agg [.int .i64 0, .int .i64 0]], 0⟩]), (low, [⟨24, 8, [.agg [.int .i64 p0.Address, .int .i64 p0.Kind, .int .i64 p0.Target, .int .i64 p0.Offset, .int .i64 p0.Scale, .int .i64 p0.Error, .int .i64 p0.Drift, .int .i64 p0.Life]], 0⟩, ⟨33, 2, [.agg [.int .i64 0, .int .i64 0]], 0⟩, ⟨33, 2, [.agg [.int .i64 0, .int .i64 0]], 0⟩])] rfl rfl (all1 (VRd.ntl (rd_add rfl rfl rfl)) (all1 (VRd.ntl (rd_add rfl rfl rfl)) all0)) ?_
          refine dops_rdW [(low, [⟨24, 8, [.agg [.int .i64 p0.Address, .int .i64 p0.Kind, .int .i64 p0.Target, .int .i64 p0.Offset, .int .i64 p0.Scale, .int .i64 p0.Error, .int .i64 p0.Drift, .int .i64 p0.Life]], 0⟩, ⟨33, 2, [.agg [.int .i64 0, .int .i64 0]], 0⟩]), (low, [⟨24, 8, [.agg [.int .i64 p0.Address, .int .i64 p0.Kind, .int .i64 p0.Target, .int .i64 p0.Offset, .int .i64 p0.Scale, .int .i64 p0.Error, .int .i64 p0.Drift, .int .i64 p0.Life]], 0⟩, ⟨33, 2, [.agg [.int .i64 0, .int .i64 0]], 0⟩, ⟨33, 2, [.agg [.int .i64 0, .int .i64 0]], 0⟩])] rfl rfl (all1 (VRd.ntl (rd_build (vs := [(0, .int .i64 (IntKind.i64.wrap ((IntKind.i64.wrap (p0.Offset + x20)) - p0.Error))), (1, .int .i64 (IntKind.i64.wrap ((IntKind.i64.wrap (p0.Offset + x22)) + p0.Error)))]) (ds := [.int .i64 (IntKind.i64.wrap ((IntKind.i64.wrap (p0.Offset + x20)) - p0.Error)), .int .i64 (IntKind.i64.wrap ((IntKind.i64.wrap (p0.Offset + x22)) + p0.Error))]) tz_33 rfl rfl tp_33 ⟨rfl, rfl, rfl, rfl, trivial⟩ (nt_all2 rfl) rfl)) (all1 (VRd.ntl (rd_build (vs := [(0, .int .i64 (IntKind.i64.wrap ((IntKind.i64.wrap (p0.Offset + x20)) - p0.Error))), (1, .int .i64 (IntKind.i64.wrap ((IntKind.i64.wrap (p0.Offset + x22)) + p0.Error)))]) (ds := [.int .i64 (IntKind.i64.wrap ((IntKind.i64.wrap (p0.Offset + x20)) - p0.Error)), .int .i64 (IntKind.i64.wrap ((IntKind.i64.wrap (p0.Offset + x22)) + p0.Error))]) tz_33 rfl rfl tp_33 ⟨rfl, rfl, rfl, rfl, trivial⟩ (nt_all2 rfl) rfl)) all0)) ?_
          refine dops_ef (M := (low, [⟨24, 8, [.agg [.int .i64 p0.Address, .int .i64 p0.Kind, .int .i64 p0.Target, .int .i64 p0.Offset, .int .i64 p0.Scale, .int .i64 p0.Error, .int .i64 p0.Drift, .int .i64 p0.Life]], 0⟩, ⟨33, 2, [.agg [.int .i64 0, .int .i64 0]], 0⟩])) (M' := (low, [⟨24, 8, [.agg [.int .i64 p0.Address, .int .i64 p0.Kind, .int .i64 p0.Target, .int .i64 p0.Offset, .int .i64 p0.Scale, .int .i64 p0.Error, .int .i64 p0.Drift, .int .i64 p0.Life]], 0⟩, ⟨33, 2, [.agg [.int .i64 0, .int .i64 0]], 0⟩, ⟨33, 2, [.agg [.int .i64 0, .int .i64 0]], 0⟩])) rfl rfl rfl (vef_allocN rfl rfl tz_33 rfl rfl (Nat.succ_pos _) rfl) ?_
          refine dops_ef (M := (low, [⟨24, 8, [.agg [.int .i64 p0.Address, .int .i64 p0.Kind, .int .i64 p0.Target, .int .i64 p0.Offset, .int .i64 p0.Scale, .int .i64 p0.Error, .int .i64 p0.Drift, .int .i64 p0.Life]], 0⟩, ⟨33, 2, [.agg [.int .i64 0, .int .i64 0]], 0⟩, ⟨33, 2, [.agg [.int .i64 0, .int .i64 0]], 0⟩])) (M' := (low, [⟨24, 8, [.agg [.int .i64 p0.Address, .int .i64 p0.Kind, .int .i64 p0.Target, .int .i64 p0.Offset, .int .i64 p0.Scale, .int .i64 p0.Error, .int .i64 p0.Drift, .int .i64 p0.Life]], 0⟩, ⟨33, 2, [.agg [.int .i64 0, .int .i64 0]], 0⟩, ⟨33, 2, [.agg [.int .i64 (IntKind.i64.wrap ((IntKind.i64.wrap (p0.Offset + x20)) - p0.Error)), .int .i64 (IntKind.i64.wrap ((IntKind.i64.wrap (p0.Offset + x22)) + p0.Error))]], 0⟩])) rfl rfl rfl (vef_store (p := .agg [.int .i64 (IntKind.i64.wrap ((IntKind.i64.wrap (p0.Offset + x20)) - p0.Error)), .int .i64 (IntKind.i64.wrap ((IntKind.i64.wrap (p0.Offset + x22)) + p0.Error))]) (e' := .agg [.int .i64 (IntKind.i64.wrap ((IntKind.i64.wrap (p0.Offset + x20)) - p0.Error)), .int .i64 (IntKind.i64.wrap ((IntKind.i64.wrap (p0.Offset + x22)) + p0.Error))]) rfl (getO_N rfl rfl) rfl rfl ts_33 rfl (nt_ne rfl) rfl (Nat.le_of_ble_eq_true rfl) rfl (setO_N rfl rfl)) ?_
          refine dops_nil ?_
          refine vwp_seq ?_
          refine vwp_seq ?_
          refine vwp_region ?_
          obtain ⟨x24, h25, hF⟩ := bnd hF
          refine vops_rd (rd_fieldAddr rfl tf_24_1 ts_3 (by decide)) rfl ?_
          refine vops_rd (rd_load1 rfl (getO_N rfl rfl) rfl ta_3 rfl) rfl ?_
          refine vops_efE (vef_callP rfl Try.call34 (F_ref05_Gassy_ok h25 _)) rfl ?_
          refine vops_nil ?_
          obtain ⟨o26, ho26, hF⟩ := bnd hF
          refine vwp_monoW (Q' := (fun o26 => OnlyE .normal (fun E' lw lc => Weak E' lw lc [(4, .ptr (low.length + 0) 0 0 0), (6, .ptr (low.length + 1) 0 0 0)] low [⟨33, 2, [.agg [.int .i64 0, .int .i64 0]], 0⟩, ⟨33, 2, [.agg [.int .i64 o26.Low, .int .i64 o26.High]], 0⟩])) o26) ?_ ?_
          · replace hF := ho26
            refine vwp_cond rfl (fun c27 => ?_) (fun c27 => ?_)
            · have hF := bifT c27 hF
              refine vwp_region ?_
              refine vops_rd (rd_fieldAddr rfl tf_33_0 ts_3 (by decide)) rfl ?_
              refine vops_rd (rd_load1 rfl (getO_N rfl rfl) rfl ta_3 rfl) rfl ?_
              refine vops_rd (rd_max rfl rfl) rfl ?_
              refine vops_rd (rd_fieldAddr rfl tf_33_1 ts_3 (by decide)) rfl ?_
              refine vops_rd (rd_load1 rfl (getO_N rfl rfl) rfl ta_3 rfl) rfl ?_
              refine vops_rd (rd_max rfl rfl) rfl ?_
              refine vops_rd (rd_fieldAddr rfl tf_33_0 ts_3 (by decide)) rfl ?_
              refine vops_efE (vef_store (p := .int .i64 (max (IntKind.i64.wrap ((IntKind.i64.wrap (p0.Offset + x20)) - p0.Error)) 0)) (e' := .agg [.int .i64 (max (IntKind.i64.wrap ((IntKind.i64.wrap (p0.Offset + x20)) - p0.Error)) 0), .int .i64 (IntKind.i64.wrap ((IntKind.i64.wrap (p0.Offset + x22)) + p0.Error))]) rfl (getO_N rfl rfl) rfl rfl ts_3 rfl (nt_ne rfl) rfl (Nat.le_of_ble_eq_true rfl) rfl (setO_N rfl rfl)) rfl ?_
              refine vops_rd (rd_fieldAddr rfl tf_33_1 ts_3 (by decide)) rfl ?_
              refine vops_efE (vef_store (p := .int .i64 (max (IntKind.i64.wrap ((IntKind.i64.wrap (p0.Offset + x22)) + p0.Error)) 0)) (e' := .agg [.int .i64 (max (IntKind.i64.wrap ((IntKind.i64.wrap (p0.Offset + x20)) - p0.Error)) 0), .int .i64 (max (IntKind.i64.wrap ((IntKind.i64.wrap (p0.Offset + x22)) + p0.Error)) 0)]) rfl (getO_N rfl rfl) rfl rfl ts_3 rfl (nt_ne rfl) rfl (Nat.le_of_ble_eq_true rfl) rfl (setO_N rfl rfl)) rfl ?_
              refine vops_nil ?_
              obtain rfl := Option.some.inj hF
              refine onlyE ?_
              exact weak_pick rfl [(1, 0), (2, 0)] (by decide) ⟨rn_ptr 0 1 rfl rfl, rn_ptr 1 2 rfl rfl, trivial⟩ ⟨⟨_, rfl, rfl, .same _ _ _ _ (ltObj_es ⟨(lt_agg ⟨.int _ _, .int _ _, trivial⟩), trivial⟩)⟩, ⟨_, rfl, rfl, .same _ _ _ _ (ltObj_es ⟨(lt_agg ⟨.int _ _, .int _ _, trivial⟩), trivial⟩)⟩, trivial⟩
            · have hF := bifF c27 hF
              refine vwp_skip ?_
              obtain rfl := Option.some.inj hF
              refine onlyE ?_
              exact weak_pick rfl [(1, 0), (2, 0)] (by decide) ⟨rn_ptr 0 1 rfl rfl, rn_ptr 1 2 rfl rfl, trivial⟩ ⟨⟨_, rfl, rfl, .same _ _ _ _ (ltObj_es ⟨(lt_agg ⟨.int _ _, .int _ _, trivial⟩), trivial⟩)⟩, ⟨_, rfl, rfl, .same _ _ _ _ (ltObj_es ⟨(lt_agg ⟨.int _ _, .int _ _, trivial⟩), trivial⟩)⟩, trivial⟩
          · rintro _ _ _ _ ⟨rfl, hw⟩
            refine ⟨_, _, _, hw, ?_⟩
            refine vwp_seq ?_
            refine vwp_region ?_
            refine vops_rd (rd_loadN (ds := [.int .i64 o26.Low, .int .i64 o26.High]) rfl (getO_N rfl rfl) rfl ta_33 ts_33 rfl rfl rfl) rfl ?_
            refine vops_efE (vef_store (p := .agg [.int .i64 o26.Low, .int .i64 o26.High]) (e' := .agg [.int .i64 o26.Low, .int .i64 o26.High]) rfl (getO_N rfl rfl) rfl rfl ts_33 rfl (nt_ne rfl) rfl (Nat.le_of_ble_eq_true rfl) rfl (setO_N rfl rfl)) rfl ?_
            refine vops_nil ?_
            refine vwp_ret ?_
            obtain rfl := Option.some.inj hF
            refine fnR ?_
            exact weak_pick rfl [(0, 0)] (by decide) ⟨rn_ptr 0 0 rfl rfl, trivial⟩ ⟨⟨_, rfl, rfl, .same _ _ _ _ (ltObj_es ⟨(lt_agg ⟨.int _ _, .int _ _, trivial⟩), trivial⟩)⟩, trivial⟩
  · rintro _ _ _ _ ⟨he, hw⟩
    refine ⟨_, _, _, hw, ?_⟩
    exact bodyQ_pure he [.agg [.int .i64 r.Low, .int .i64 r.High]] ⟨rd_loadN rfl (getO_N rfl rfl) rfl ta_33 ts_33 rfl rfl rfl, trivial⟩ ((lt_agg ⟨.int _ _, .int _ _, trivial⟩)) ⟨rfl, rfl⟩

theorem F_law05_SensorValues_ok {p0 : List Int} {p1 : T_Sensor} {p2 : Int} {p3 : Int} {r : Bool} (hF : F_law05_SensorValues p0 p1 p2 p3 = some r) (low : List AObj) :
    VCalls Try.prog 4 [.vs 1 (List.map (PV.int .u8) p0), .agg [.int .i64 p1.Address, .int .i64 p1.Kind, .int .i64 p1.Target, .int .i64 p1.Offset, .int .i64 p1.Scale, .int .i64 p1.Error, .int .i64 p1.Drift, .int .i64 p1.Life], .int .i64 p2, .int .i64 p3] low fun x low' => x = .bool r ∧ low' = low := by
  refine vcalls_of_body (nt := 53) (rs := [.tmp 8]) Try.func4 rfl rfl (Nat.le_of_ble_eq_true rfl) rfl ?_
  refine vwp_monoW (Q' := FnE (fun E' lw lc => Weak E' lw lc [(8, .bool r)] low [])) ?_ ?_
  · unfold F_law05_SensorValues at hF
    refine vwp_seq ?_
    refine vwp_region ?_
    refine vops_efE (vef_boxN rfl rfl (v := .agg [.int .i64 p1.Address, .int .i64 p1.Kind, .int .i64 p1.Target, .int .i64 p1.Offset, .int .i64 p1.Scale, .int .i64 p1.Error, .int .i64 p1.Drift, .int .i64 p1.Life]) rfl rfl (Nat.succ_pos _) rfl rfl) rfl ?_
    refine vops_rd (rd_asB rfl) rfl ?_
    refine vops_nil ?_
    refine vwp_seq ?_
    refine vwp_region ?_
    obtain ⟨x1, h2, hF⟩ := bnd hF
    refine vops_rd (rd_mvI rfl) rfl ?_
    refine vops_efE (vef_callP rfl Try.call14 (F_draw_Mod_ok h2 _)) rfl ?_
    refine vops_rd (rd_asI rfl) rfl ?_
    refine vops_nil ?_
    refine vwp_seq ?_
    refine vwp_seq ?_
    obtain ⟨x3, h4, hF⟩ := bnd hF
    refine vwp_drawn [[], [], [0, 1], [], [0, 1, 2, 3], [0, 1, 2, 3, 4], []] [false, false, false, false, false, false, false] [(low, [⟨24, 8, [.agg [.int .i64 p1.Address, .int .i64 p1.Kind, .int .i64 p1.Target, .int .i64 p1.Offset, .int .i64 p1.Scale, .int .i64 p1.Error, .int .i64 p1.Drift, .int .i64 p1.Life]], 0⟩])] mixed (by kernel_rfl) rfl (lenAll (all1 rfl all0)) rfl (low, [⟨24, 8, [.agg [.int .i64 p1.Address, .int .i64 p1.Kind, .int .i64 p1.Target, .int .i64 p1.Offset, .int .i64 p1.Scale, .int .i64 p1.Error, .int .i64 p1.Drift, .int .i64 p1.Life]], 0⟩]) rfl rfl ?_
    refine dops_rdW [(low, [⟨24, 8, [.agg [.int .i64 p1.Address, .int .i64 p1.Kind, .int .i64 p1.Target, .int .i64 p1.Offset, .int .i64 p1.Scale, .int .i64 p1.Error, .int .i64 p1.Drift, .int .i64 p1.Life]], 0⟩])] rfl rfl (all1 (VRd.ntl (rd_mvV rfl)) all0) ?_
    refine dops_rdW [(low, [⟨24, 8, [.agg [.int .i64 p1.Address, .int .i64 p1.Kind, .int .i64 p1.Target, .int .i64 p1.Offset, .int .i64 p1.Scale, .int .i64 p1.Error, .int .i64 p1.Drift, .int .i64 p1.Life]], 0⟩])] rfl rfl (all1 (VRd.ntl (rd_mvI rfl)) all0) ?_
    refine dops_rdW [(low, [⟨24, 8, [.agg [.int .i64 p1.Address, .int .i64 p1.Kind, .int .i64 p1.Target, .int .i64 p1.Offset, .int .i64 p1.Scale, .int .i64 p1.Error, .int .i64 p1.Drift, .int .i64 p1.Life]], 0⟩])] rfl rfl (all1 (nt_of (vef_callP rfl Try.call10 (F_law05_made_ok h4 _))) all0) ?_
    refine dops_rdW [(low, [⟨24, 8, [.agg [.int .i64 p1.Address, .int .i64 p1.Kind, .int .i64 p1.Target, .int .i64 p1.Offset, .int .i64 p1.Scale, .int .i64 p1.Error, .int .i64 p1.Drift, .int .i64 p1.Life]], 0⟩])] rfl rfl (all1 (VRd.ntl (rd_loadN (ds := [.int .i64 p1.Address, .int .i64 p1.Kind, .int .i64 p1.Target, .int .i64 p1.Offset, .int .i64 p1.Scale, .int .i64 p1.Error, .int .i64 p1.Drift, .int .i64 p1.Life]) rfl (getO_N rfl rfl) rfl ta_24 ts_24 rfl rfl rfl)) all0) ?_
    refine dops_rdW [(low, [⟨24, 8, [.agg [.int .i64 p1.Address, .int .i64 p1.Kind, .int .i64 p1.Target, .int .i64 p1.Offset, .int .i64 p1.Scale, .int .i64 p1.Error, .int .i64 p1.Drift, .int .i64 p1.Life]], 0⟩])] rfl rfl (all1 (nt_of (vef_litF (es := List.map T_Sensor.enc [x3, p1]) ⟨rfl, rfl, rfl, rfl, trivial⟩ rfl rfl (nt_all rfl) te_31 ts_24 tz_24 rfl rfl (Nat.succ_pos _) (by decide) (lt_map T_Sensor.enc_lt))) all0) ?_
    refine dops_rdW [(low, [⟨24, 8, [.agg [.int .i64 p1.Address, .int .i64 p1.Kind, .int .i64 p1.Target, .int .i64 p1.Offset, .int .i64 p1.Scale, .int .i64 p1.Error, .int .i64 p1.Drift, .int .i64 p1.Life]], 0⟩])] rfl rfl (all1 (VRd.ntl (rd_to (rd_lenV rfl rfl te_31) (congrArg (fun n : Nat => PV.int .i64 (n : Int)) (List.length_map _)))) all0) ?_
    refine dops_rdW [(low, [⟨24, 8, [.agg [.int .i64 p1.Address, .int .i64 p1.Kind, .int .i64 p1.Target, .int .i64 p1.Offset, .int .i64 p1.Scale, .int .i64 p1.Error, .int .i64 p1.Drift, .int .i64 p1.Life]], 0⟩])] rfl rfl (all1 (VRd.ntl (rd_mvI rfl)) all0) ?_
    refine dops_nil ?_
    refine vwp_block ?_
    obtain ⟨o6, ho6, hF⟩ := bnd hF
    refine vwp_monoW (vwp_loopC (F_law05_SensorValues_L1 p1 p2 x1 x3) (fun s5 E' lw lc => Weak E' lw lc [(2, .int .i64 p2), (9, .int .i64 x1), (18, .vs 8 (List.map T_Sensor.enc [x3, p1])), (19, .int .i64 (([x3, p1]).length : Int)), (20, .int .i64 s5)] low []) (Sum.elim (fun j7 => OnlyE .ret (fun E' lw lc => Weak E' lw lc [(8, .bool false)] low [])) (fun j8 => OnlyE (.exit 0) (fun E' lw lc => Weak E' lw lc [] low []))) ho6 ?_ (by rintro (_|_) _ _ _ ⟨h, _⟩ <;> cases h) ?_) ?_
    · exact weak_pick rfl [] (by decide) ⟨rn_low rfl (.int _ _), rn_low rfl (.int _ _), rn_low rfl (.vs _ _), rn_low rfl (.int _ _), rn_low rfl (.int _ _), trivial⟩ trivial
    · rintro s5 os5 _ _ _ hF hw
      unfold F_law05_SensorValues_L1 at hF
      refine vwp_weak hw ?_
      refine vwp_seq ?_
      refine vwp_region ?_
      refine vops_rd (rd_lss rfl rfl) rfl ?_
      refine vops_nil ?_
      refine vwp_seq ?_
      refine vwp_cond rfl (fun c9 => ?_) (fun c9 => ?_)
      · have hF := bifT c9 hF
        refine vwp_skip ?_
        refine vwp_seq ?_
        refine vwp_block ?_
        refine vwp_seq ?_
        refine vwp_region ?_
        obtain ⟨x10, h11, hF⟩ := bnd hF
        refine vops_rd (rd_to (rd_ixV rfl rfl h11 te_31 ts_24) (v' := .vptr [.int .i64 x10.Address, .int .i64 x10.Kind, .int .i64 x10.Target, .int .i64 x10.Offset, .int .i64 x10.Scale, .int .i64 x10.Error, .int .i64 x10.Drift, .int .i64 x10.Life] 0) rfl) rfl ?_
        refine vops_rd (rd_loadVN (ds := [.int .i64 x10.Address, .int .i64 x10.Kind, .int .i64 x10.Target, .int .i64 x10.Offset, .int .i64 x10.Scale, .int .i64 x10.Error, .int .i64 x10.Drift, .int .i64 x10.Life]) rfl ta_24 ts_24 rfl rfl) rfl ?_
        refine vops_efE (vef_allocN rfl rfl tz_24 rfl rfl (Nat.succ_pos _) rfl) rfl ?_
        refine vops_efE (vef_store (p := .agg [.int .i64 x10.Address, .int .i64 x10.Kind, .int .i64 x10.Target, .int .i64 x10.Offset, .int .i64 x10.Scale, .int .i64 x10.Error, .int .i64 x10.Drift, .int .i64 x10.Life]) (e' := .agg [.int .i64 x10.Address, .int .i64 x10.Kind, .int .i64 x10.Target, .int .i64 x10.Offset, .int .i64 x10.Scale, .int .i64 x10.Error, .int .i64 x10.Drift, .int .i64 x10.Life]) rfl (getO_N rfl rfl) rfl rfl ts_24 rfl (nt_ne rfl) rfl (Nat.le_of_ble_eq_true rfl) rfl (setO_N rfl rfl)) rfl ?_
        refine vops_nil ?_
        refine vwp_seq ?_
        obtain ⟨o12, ho12, hF⟩ := bnd hF
        refine vwp_monoW (Q' := (fun o12 => OnlyE .normal (fun E' lw lc => Weak E' lw lc [(2, .int .i64 p2), (9, .int .i64 x1), (18, .vs 8 (List.map T_Sensor.enc [x3, p1])), (19, .int .i64 (([x3, p1]).length : Int)), (20, .int .i64 s5), (50, .bool o12)] low [])) o12) ?_ ?_
        · replace hF := ho12
          obtain ⟨x13, h14, hF⟩ := bnd hF
          obtain ⟨x15, h16, hF⟩ := bnd hF
          rcases Bool.eq_false_or_eq_true (!((x13.Low == x15.Low) && ((x13.High == x15.High) && true))) with c17 | c17
          · have hF := bifT c17 hF
            refine vwp_drawn [[], [], [0, 1], [], [], [0, 1, 2, 3, 4], [0, 1, 2, 3, 4, 5], [0, 1, 2, 3, 4, 5, 6], [0, 1, 2, 3, 4, 5, 6, 7], [0, 1, 2, 3, 4, 5, 6, 7], [0, 1, 2, 3, 4, 5, 6, 7, 8, 9], [0, 1, 2, 3, 4, 5, 6, 7], [0, 1, 2, 3, 4, 5, 6, 7], [0, 1, 2, 3, 4, 5, 6, 7, 8, 9, 10, 11, 12], [0, 1, 2, 3, 4, 5, 6, 7, 8, 9, 10, 11, 12, 13], [0, 1, 2, 3, 4, 5, 6, 7, 8, 9, 10, 11, 12, 13, 14], [0, 1, 2, 3, 4, 5, 6, 7, 8, 9, 10, 11, 12, 13, 14, 15], [0, 1, 2, 3, 4, 5, 6, 7, 8, 9, 10, 11, 12, 13, 14, 15, 16], [0, 1, 2, 3, 4, 5, 6, 7, 8, 9, 10, 11, 12, 13, 14, 15, 16], [0, 1, 2, 3, 4, 5, 6, 7, 8, 9, 10, 11, 12, 13, 14, 15, 16, 18], [0, 1, 2, 3, 4, 5, 6, 7, 8, 9, 10, 11, 12, 13, 14, 15, 16, 17, 18, 19], [0, 1, 2, 3, 4, 5, 6, 7, 8, 9, 10, 11, 12, 13, 14, 15, 16], [0, 1, 2, 3, 4, 5, 6, 7, 8, 9, 10, 11, 12, 13, 14, 15, 16], [0, 1, 2, 3, 4, 5, 6, 7, 8, 9, 10, 11, 12, 13, 14, 15, 16, 22], [0, 1, 2, 3, 4, 5, 6, 7, 8, 9, 10, 11, 12, 13, 14, 15, 16, 17, 18, 19, 20, 21, 22, 23], [0, 1, 2, 3, 4, 5, 6, 7, 8, 9, 10, 11, 12, 13, 14, 15, 16, 17, 18, 19, 20, 21, 22, 23, 24], [0, 1, 2, 3, 4, 5, 6, 7, 8, 9, 10, 11, 12, 13, 14, 15, 16, 17, 18, 19, 20, 21, 22, 23, 24, 25]] [false, false, false, false, false, false, false, false, false, false, false, false, false, false, false, false, false, false, false, false, false, false, false, false, false, false, false] [(low, [⟨24, 8, [.agg [.int .i64 x10.Address, .int .i64 x10.Kind, .int .i64 x10.Target, .int .i64 x10.Offset, .int .i64 x10.Scale, .int .i64 x10.Error, .int .i64 x10.Drift, .int .i64 x10.Life]], 0⟩])] mixed (by kernel_rfl) rfl (lenAll (all1 rfl all0)) rfl (low, [⟨24, 8, [.agg [.int .i64 x10.Address, .int .i64 x10.Kind, .int .i64 x10.Target, .int .i64 x10.Offset, .int .i64 x10.Scale, .int .i64 x10.Error, .int .i64 x10.Drift, .int .i64 x10.Life]], 0⟩]) rfl rfl ?_
            refine dops_rdW [(low, [⟨24, 8, [.agg [.int .i64 x10.Address, .int .i64 x10.Kind, .int .i64 x10.Target, .int .i64 x10.Offset, .int .i64 x10.Scale, .int .i64 x10.Error, .int .i64 x10.Drift, .int .i64 x10.Life]], 0⟩])] rfl rfl (all1 (VRd.ntl (rd_loadN (ds := [.int .i64 x10.Address, .int .i64 x10.Kind, .int .i64 x10.Target, .int .i64 x10.Offset, .int .i64 x10.Scale, .int .i64 x10.Error, .int .i64 x10.Drift, .int .i64 x10.Life]) rfl (getO_N rfl rfl) rfl ta_24 ts_24 rfl rfl rfl)) all0) ?_
            refine dops_rdW [(low, [⟨24, 8, [.agg [.int .i64 x10.Address, .int .i64 x10.Kind, .int .i64 x10.Target, .int .i64 x10.Offset, .int .i64 x10.Scale, .int .i64 x10.Error, .int .i64 x10.Drift, .int .i64 x10.Life]], 0⟩])] rfl rfl (all1 (VRd.ntl (rd_mvI rfl)) all0) ?_
            refine dops_rdW [(low, [⟨24, 8, [.agg [.int .i64 x10.Address, .int .i64 x10.Kind, .int .i64 x10.Target, .int .i64 x10.Offset, .int .i64 x10.Scale, .int .i64 x10.Error, .int .i64 x10.Drift, .int .i64 x10.Life]], 0⟩])] rfl rfl (all1 (nt_of (vef_callP rfl Try.call15 (F_sensor_Value_ok h14 _))) all0) ?_
            refine dops_rdW [(low, [⟨24, 8, [.agg [.int .i64 x10.Address, .int .i64 x10.Kind, .int .i64 x10.Target, .int .i64 x10.Offset, .int .i64 x10.Scale, .int .i64 x10.Error, .int .i64 x10.Drift, .int .i64 x10.Life]], 0⟩])] rfl rfl (all1 (VRd.ntl (rd_loadN (ds := [.int .i64 x10.Address, .int .i64 x10.Kind, .int .i64 x10.Target, .int .i64 x10.Offset, .int .i64 x10.Scale, .int .i64 x10.Error, .int .i64 x10.Drift, .int .i64 x10.Life]) rfl (getO_N rfl rfl) rfl ta_24 ts_24 rfl rfl rfl)) all0) ?_
            refine dops_rdW [(low, [⟨24, 8, [.agg [.int .i64 x10.Address, .int .i64 x10.Kind, .int .i64 x10.Target, .int .i64 x10.Offset, .int .i64 x10.Scale, .int .i64 x10.Error, .int .i64 x10.Drift, .int .i64 x10.Life]], 0⟩])] rfl rfl (all1 (VRd.ntl (rd_mvI rfl)) all0) ?_
            refine dops_rdW [(low, [⟨24, 8, [.agg [.int .i64 x10.Address, .int .i64 x10.Kind, .int .i64 x10.Target, .int .i64 x10.Offset, .int .i64 x10.Scale, .int .i64 x10.Error, .int .i64 x10.Drift, .int .i64 x10.Life]], 0⟩])] rfl rfl (all1 (nt_of (vef_callP rfl Try.call16 (F_ref05_Value_ok h16 _))) all0) ?_
            refine dops_rdW [(low, [⟨24, 8, [.agg [.int .i64 x10.Address, .int .i64 x10.Kind, .int .i64 x10.Target, .int .i64 x10.Offset, .int .i64 x10.Scale, .int .i64 x10.Error, .int .i64 x10.Drift, .int .i64 x10.Life]], 0⟩])] rfl rfl (all1 (VRd.ntl (rd_neqV (tab := eqTab) eqTab_ok rfl rfl eqg_33 rfl)) all0) ?_
            refine dops_rdW [(low, [⟨24, 8, [.agg [.int .i64 x10.Address, .int .i64 x10.Kind, .int .i64 x10.Target, .int .i64 x10.Offset, .int .i64 x10.Scale, .int .i64 x10.Error, .int .i64 x10.Drift, .int .i64 x10.Life]], 0⟩])] rfl rfl (all1 (VRd.ntl (rd_mvB rfl)) all0) ?_
            refine dops_skip rfl rfl rfl (neT c17) ?_
            refine dops_skip rfl rfl rfl (neT c17) ?_
            refine dops_skip rfl rfl rfl (neT c17) ?_
            refine dops_skip rfl rfl rfl (neT c17) ?_
            refine dops_skip rfl rfl rfl (neT c17) ?_
            refine dops_skip rfl rfl rfl (neT c17) ?_
            refine dops_skip rfl rfl rfl (neT c17) ?_
            refine dops_rdW [(low, [⟨24, 8, [.agg [.int .i64 x10.Address, .int .i64 x10.Kind, .int .i64 x10.Target, .int .i64 x10.Offset, .int .i64 x10.Scale, .int .i64 x10.Error, .int .i64 x10.Drift, .int .i64 x10.Life]], 0⟩])] rfl rfl (all1 (VRd.ntl (rd_pickT (congrArg PV.bool c17) rfl)) all0) ?_
            refine dops_rdW [(low, [⟨24, 8, [.agg [.int .i64 x10.Address, .int .i64 x10.Kind, .int .i64 x10.Target, .int .i64 x10.Offset, .int .i64 x10.Scale, .int .i64 x10.Error, .int .i64 x10.Drift, .int .i64 x10.Life]], 0⟩])] rfl rfl (all1 (VRd.ntl (rd_mvB rfl)) all0) ?_
            refine dops_skip rfl rfl rfl (by decide) ?_
            refine dops_skip rfl rfl rfl (by decide) ?_
            refine dops_skip rfl rfl rfl (by decide) ?_
            refine dops_skip rfl rfl rfl (by decide) ?_
            refine dops_skip rfl rfl rfl (by decide) ?_
            refine dops_skip rfl rfl rfl (by decide) ?_
            refine dops_skip rfl rfl rfl (by decide) ?_
            refine dops_skip rfl rfl rfl (by decide) ?_
            refine dops_skip rfl rfl rfl (by decide) ?_
            refine dops_rdW [(low, [⟨24, 8, [.agg [.int .i64 x10.Address, .int .i64 x10.Kind, .int .i64 x10.Target, .int .i64 x10.Offset, .int .i64 x10.Scale, .int .i64 x10.Error, .int .i64 x10.Drift, .int .i64 x10.Life]], 0⟩])] rfl rfl (all1 (VRd.ntl (rd_pickT rfl rfl)) all0) ?_
            refine dops_nil ?_
            obtain rfl := Option.some.inj hF
            refine onlyE ?_
            exact weak_pick rfl [] (by decide) ⟨rn_low rfl (.int _ _), rn_low rfl (.int _ _), rn_low rfl (.vs _ _), rn_low rfl (.int _ _), rn_low rfl (.int _ _), rn_low rfl (.bool _), trivial⟩ trivial
          · have hF := bifF c17 hF
            obtain ⟨x18, h19, hF⟩ := bnd hF
            obtain ⟨x20, h21, hF⟩ := bnd hF
            rcases Bool.eq_false_or_eq_true (!((x18.Low == x20.Low) && ((x18.High == x20.High) && true))) with c22 | c22
            · have hF := bifT c22 hF
              refine vwp_drawn [[], [], [0, 1], [], [], [0, 1, 2, 3, 4], [0, 1, 2, 3, 4, 5], [0, 1, 2, 3, 4, 5, 6], [0, 1, 2, 3, 4, 5, 6, 7], [0, 1, 2, 3, 4, 5, 6, 7], [0, 1, 2, 3, 4, 5, 6, 7, 8, 9], [0, 1, 2, 3, 4, 5, 6, 7], [0, 1, 2, 3, 4, 5, 6, 7], [0, 1, 2, 3, 4, 5, 6, 7, 8, 9, 10, 11, 12], [0, 1, 2, 3, 4, 5, 6, 7, 8, 9, 10, 11, 12, 13], [0, 1, 2, 3, 4, 5, 6, 7, 8, 9, 10, 11, 12, 13, 14], [0, 1, 2, 3, 4, 5, 6, 7, 8, 9, 10, 11, 12, 13, 14, 15], [0, 1, 2, 3, 4, 5, 6, 7, 8, 9, 10, 11, 12, 13, 14, 15, 16], [0, 1, 2, 3, 4, 5, 6, 7, 8, 9, 10, 11, 12, 13, 14, 15, 16], [0, 1, 2, 3, 4, 5, 6, 7, 8, 9, 10, 11, 12, 13, 14, 15, 16, 18], [0, 1, 2, 3, 4, 5, 6, 7, 8, 9, 10, 11, 12, 13, 14, 15, 16, 17, 18, 19], [0, 1, 2, 3, 4, 5, 6, 7, 8, 9, 10, 11, 12, 13, 14, 15, 16], [0, 1, 2, 3, 4, 5, 6, 7, 8, 9, 10, 11, 12, 13, 14, 15, 16], [0, 1, 2, 3, 4, 5, 6, 7, 8, 9, 10, 11, 12, 13, 14, 15, 16, 22], [0, 1, 2, 3, 4, 5, 6, 7, 8, 9, 10, 11, 12, 13, 14, 15, 16, 17, 18, 19, 20, 21, 22, 23], [0, 1, 2, 3, 4, 5, 6, 7, 8, 9, 10, 11, 12, 13, 14, 15, 16, 17, 18, 19, 20, 21, 22, 23, 24], [0, 1, 2, 3, 4, 5, 6, 7, 8, 9, 10, 11, 12, 13, 14, 15, 16, 17, 18, 19, 20, 21, 22, 23, 24, 25]] [false, false, false, false, false, false, false, false, false, false, false, false, false, false, false, false, false, false, false, false, false, false, false, false, false, false, false] [(low, [⟨24, 8, [.agg [.int .i64 x10.Address, .int .i64 x10.Kind, .int .i64 x10.Target, .int .i64 x10.Offset, .int .i64 x10.Scale, .int .i64 x10.Error, .int .i64 x10.Drift, .int .i64 x10.Life]], 0⟩])] mixed (by kernel_rfl) rfl (lenAll (all1 rfl all0)) rfl (low, [⟨24, 8, [.agg [.int .i64 x10.Address, .int .i64 x10.Kind, .int .i64 x10.Target, .int .i64 x10.Offset, .int .i64 x10.Scale, .int .i64 x10.Error, .int .i64 x10.Drift, .int .i64 x10.Life]], 0⟩]) rfl rfl ?_
              refine dops_rdW [(low, [⟨24, 8, [.agg [.int .i64 x10.Address, .int .i64 x10.Kind, .int .i64 x10.Target, .int .i64 x10.Offset, .int .i64 x10.Scale, .int .i64 x10.Error, .int .i64 x10.Drift, .int .i64 x10.Life]], 0⟩])] rfl rfl (all1 (VRd.ntl (rd_loadN (ds := [.int .i64 x10.Address, .int .i64 x10.Kind, .int .i64 x10.Target, .int .i64 x10.Offset, .int .i64 x10.Scale, .int .i64 x10.Error, .int .i64 x10.Drift, .int .i64 x10.Life]) rfl (getO_N rfl rfl) rfl ta_24 ts_24 rfl rfl rfl)) all0) ?_
              refine dops_rdW [(low, [⟨24, 8, [.agg [.int .i64 x10.Address, .int .i64 x10.Kind, .int .i64 x10.Target, .int .i64 x10.Offset, .int .i64 x10.Scale, .int .i64 x10.Error, .int .i64 x10.Drift, .int .i64 x10.Life]], 0⟩])] rfl rfl (all1 (VRd.ntl (rd_mvI rfl)) all0) ?_
              refine dops_rdW [(low, [⟨24, 8, [.agg [.int .i64 x10.Address, .int .i64 x10.Kind, .int .i64 x10.Target, .int .i64 x10.Offset, .int .i64 x10.Scale, .int .i64 x10.Error, .int .i64 x10.Drift, .int .i64 x10.Life]], 0⟩])] rfl rfl (all1 (nt_of (vef_callP rfl Try.call15 (F_sensor_Value_ok h14 _))) all0) ?_
              refine dops_rdW [(low, [⟨24, 8, [.agg [.int .i64 x10.Address, .int .i64 x10.Kind, .int .i64 x10.Target, .int .i64 x10.Offset, .int .i64 x10.Scale, .int .i64 x10.Error, .int .i64 x10.Drift, .int .i64 x10.Life]], 0⟩])] rfl rfl (all1 (VRd.ntl (rd_loadN (ds := [.int .i64 x10.Address, .int .i64 x10.Kind, .int .i64 x10.Target, .int .i64 x10.Offset, .int .i64 x10.Scale, .int .i64 x10.Error, .int .i64 x10.Drift, .int .i64 x10.Life]) rfl (getO_N rfl rfl) rfl ta_24 ts_24 rfl rfl rfl)) all0) ?_
              refine dops_rdW [(low, [⟨24, 8, [.agg [.int .i64 x10.Address, .int .i64 x10.Kind, .int .i64 x10.Target, .int .i64 x10.Offset, .int .i64 x10.Scale, .int .i64 x10.Error, .int .i64 x10.Drift, .int .i64 x10.Life]], 0⟩])] rfl rfl (all1 (VRd.ntl (rd_mvI rfl)) all0) ?_
              refine dops_rdW [(low, [⟨24, 8, [.agg [.int .i64 x10.Address, .int .i64 x10.Kind, .int .i64 x10.Target, .int .i64 x10.Offset, .int .i64 x10.Scale, .int .i64 x10.Error, .int .i64 x10.Drift, .int .i64 x10.Life]], 0⟩])] rfl rfl (all1 (nt_of (vef_callP rfl Try.call16 (F_ref05_Value_ok h16 _))) all0) ?_
              refine dops_rdW [(low, [⟨24, 8, [.agg [.int .i64 x10.Address, .int .i64 x10.Kind, .int .i64 x10.Target, .int .i64 x10.Offset, .int .i64 x10.Scale, .int .i64 x10.Error, .int .i64 x10.Drift, .int .i64 x10.Life]], 0⟩])] rfl rfl (all1 (VRd.ntl (rd_neqV (tab := eqTab) eqTab_ok rfl rfl eqg_33 rfl)) all0) ?_
              refine dops_rdW [(low, [⟨24, 8, [.agg [.int .i64 x10.Address, .int .i64 x10.Kind, .int .i64 x10.Target, .int .i64 x10.Offset, .int .i64 x10.Scale, .int .i64 x10.Error, .int .i64 x10.Drift, .int .i64 x10.Life]], 0⟩])] rfl rfl (all1 (VRd.ntl (rd_mvB rfl)) all0) ?_
              refine dops_takeW [(low, [⟨24, 8, [.agg [.int .i64 x10.Address, .int .i64 x10.Kind, .int .i64 x10.Target, .int .i64 x10.Offset, .int .i64 x10.Scale, .int .i64 x10.Error, .int .i64 x10.Drift, .int .i64 x10.Life]], 0⟩])] rfl rfl rfl (congrArg PV.bool c17) (all1 (VRd.ntl (rd_loadN (ds := [.int .i64 x10.Address, .int .i64 x10.Kind, .int .i64 x10.Target, .int .i64 x10.Offset, .int .i64 x10.Scale, .int .i64 x10.Error, .int .i64 x10.Drift, .int .i64 x10.Life]) rfl (getO_N rfl rfl) rfl ta_24 ts_24 rfl rfl rfl)) all0) ?_
              refine dops_takeW [(low, [⟨24, 8, [.agg [.int .i64 x10.Address, .int .i64 x10.Kind, .int .i64 x10.Target, .int .i64 x10.Offset, .int .i64 x10.Scale, .int .i64 x10.Error, .int .i64 x10.Drift, .int .i64 x10.Life]], 0⟩])] rfl rfl rfl (congrArg PV.bool c17) (all1 (VRd.ntl (rd_mvI rfl)) all0) ?_
              refine dops_takeW [(low, [⟨24, 8, [.agg [.int .i64 x10.Address, .int .i64 x10.Kind, .int .i64 x10.Target, .int .i64 x10.Offset, .int .i64 x10.Scale, .int .i64 x10.Error, .int .i64 x10.Drift, .int .i64 x10.Life]], 0⟩])] rfl rfl rfl (congrArg PV.bool c17) (all1 (nt_of (vef_callP rfl Try.call15 (F_sensor_Value_ok h19 _))) all0) ?_
              refine dops_takeW [(low, [⟨24, 8, [.agg [.int .i64 x10.Address, .int .i64 x10.Kind, .int .i64 x10.Target, .int .i64 x10.Offset, .int .i64 x10.Scale, .int .i64 x10.Error, .int .i64 x10.Drift, .int .i64 x10.Life]], 0⟩])] rfl rfl rfl (congrArg PV.bool c17) (all1 (VRd.ntl (rd_loadN (ds := [.int .i64 x10.Address, .int .i64 x10.Kind, .int .i64 x10.Target, .int .i64 x10.Offset, .int .i64 x10.Scale, .int .i64 x10.Error, .int .i64 x10.Drift, .int .i64 x10.Life]) rfl (getO_N rfl rfl) rfl ta_24 ts_24 rfl rfl rfl)) all0) ?_
              refine dops_takeW [(low, [⟨24, 8, [.agg [.int .i64 x10.Address, .int .i64 x10.Kind, .int .i64 x10.Target, .int .i64 x10.Offset, .int .i64 x10.Scale, .int .i64 x10.Error, .int .i64 x10.Drift, .int .i64 x10.Life]], 0⟩])] rfl rfl rfl (congrArg PV.bool c17) (all1 (VRd.ntl (rd_mvI rfl)) all0) ?_
              refine dops_takeW [(low, [⟨24, 8, [.agg [.int .i64 x10.Address, .int .i64 x10.Kind, .int .i64 x10.Target, .int .i64 x10.Offset, .int .i64 x10.Scale, .int .i64 x10.Error, .int .i64 x10.Drift, .int .i64 x10.Life]], 0⟩])] rfl rfl rfl (congrArg PV.bool c17) (all1 (nt_of (vef_callP rfl Try.call16 (F_ref05_Value_ok h21 _))) all0) ?_
              refine dops_takeW [(low, [⟨24, 8, [.agg [.int .i64 x10.Address, .int .i64 x10.Kind, .int .i64 x10.Target, .int .i64 x10.Offset, .int .i64 x10.Scale, .int .i64 x10.Error, .int .i64 x10.Drift, .int .i64 x10.Life]], 0⟩])] rfl rfl rfl (congrArg PV.bool c17) (all1 (VRd.ntl (rd_neqV (tab := eqTab) eqTab_ok rfl rfl eqg_33 rfl)) all0) ?_
              refine dops_rdW [(low, [⟨24, 8, [.agg [.int .i64 x10.Address, .int .i64 x10.Kind, .int .i64 x10.Target, .int .i64 x10.Offset, .int .i64 x10.Scale, .int .i64 x10.Error, .int .i64 x10.Drift, .int .i64 x10.Life]], 0⟩])] rfl rfl (all1 (VRd.ntl (rd_pickF (congrArg PV.bool c17) rfl)) all0) ?_
              refine dops_rdW [(low, [⟨24, 8, [.agg [.int .i64 x10.Address, .int .i64 x10.Kind, .int .i64 x10.Target, .int .i64 x10.Offset, .int .i64 x10.Scale, .int .i64 x10.Error, .int .i64 x10.Drift, .int .i64 x10.Life]], 0⟩])] rfl rfl (all1 (VRd.ntl (rd_mvB rfl)) all0) ?_
              refine dops_skip rfl rfl rfl (neT c22) ?_
              refine dops_skip rfl rfl rfl (neT c22) ?_
              refine dops_skip rfl rfl rfl (neT c22) ?_
              refine dops_skip rfl rfl rfl (neT c22) ?_
              refine dops_skip rfl rfl rfl (neT c22) ?_
              refine dops_skip rfl rfl rfl (neT c22) ?_
              refine dops_skip rfl rfl rfl (neT c22) ?_
              refine dops_skip rfl rfl rfl (neT c22) ?_
              refine dops_skip rfl rfl rfl (neT c22) ?_
              refine dops_rdW [(low, [⟨24, 8, [.agg [.int .i64 x10.Address, .int .i64 x10.Kind, .int .i64 x10.Target, .int .i64 x10.Offset, .int .i64 x10.Scale, .int .i64 x10.Error, .int .i64 x10.Drift, .int .i64 x10.Life]], 0⟩])] rfl rfl (all1 (VRd.ntl (rd_pickT (congrArg PV.bool c22) rfl)) all0) ?_
              refine dops_nil ?_
              obtain rfl := Option.some.inj hF
              refine onlyE ?_
              exact weak_pick rfl [] (by decide) ⟨rn_low rfl (.int _ _), rn_low rfl (.int _ _), rn_low rfl (.vs _ _), rn_low rfl (.int _ _), rn_low rfl (.int _ _), rn_low rfl (.bool _), trivial⟩ trivial
            · have hF := bifF c22 hF
              obtain ⟨x23, h24, hF⟩ := bnd hF
              obtain ⟨x25, h26, hF⟩ := bnd hF
              refine vwp_drawn [[], [], [0, 1], [], [], [0, 1, 2, 3, 4], [0, 1, 2, 3, 4, 5], [0, 1, 2, 3, 4, 5, 6], [0, 1, 2, 3, 4, 5, 6, 7], [0, 1, 2, 3, 4, 5, 6, 7], [0, 1, 2, 3, 4, 5, 6, 7, 8, 9], [0, 1, 2, 3, 4, 5, 6, 7], [0, 1, 2, 3, 4, 5, 6, 7], [0, 1, 2, 3, 4, 5, 6, 7, 8, 9, 10, 11, 12], [0, 1, 2, 3, 4, 5, 6, 7, 8, 9, 10, 11, 12, 13], [0, 1, 2, 3, 4, 5, 6, 7, 8, 9, 10, 11, 12, 13, 14], [0, 1, 2, 3, 4, 5, 6, 7, 8, 9, 10, 11, 12, 13, 14, 15], [0, 1, 2, 3, 4, 5, 6, 7, 8, 9, 10, 11, 12, 13, 14, 15, 16], [0, 1, 2, 3, 4, 5, 6, 7, 8, 9, 10, 11, 12, 13, 14, 15, 16], [0, 1, 2, 3, 4, 5, 6, 7, 8, 9, 10, 11, 12, 13, 14, 15, 16, 18], [0, 1, 2, 3, 4, 5, 6, 7, 8, 9, 10, 11, 12, 13, 14, 15, 16, 17, 18, 19], [0, 1, 2, 3, 4, 5, 6, 7, 8, 9, 10, 11, 12, 13, 14, 15, 16], [0, 1, 2, 3, 4, 5, 6, 7, 8, 9, 10, 11, 12, 13, 14, 15, 16], [0, 1, 2, 3, 4, 5, 6, 7, 8, 9, 10, 11, 12, 13, 14, 15, 16, 22], [0, 1, 2, 3, 4, 5, 6, 7, 8, 9, 10, 11, 12, 13, 14, 15, 16, 17, 18, 19, 20, 21, 22, 23], [0, 1, 2, 3, 4, 5, 6, 7, 8, 9, 10, 11, 12, 13, 14, 15, 16, 17, 18, 19, 20, 21, 22, 23, 24], [0, 1, 2, 3, 4, 5, 6, 7, 8, 9, 10, 11, 12, 13, 14, 15, 16, 17, 18, 19, 20, 21, 22, 23, 24, 25]] [false, false, false, false, false, false, false, false, false, false, false, false, false, false, false, false, false, false, false, false, false, false, false, false, false, false, false] [(low, [⟨24, 8, [.agg [.int .i64 x10.Address, .int .i64 x10.Kind, .int .i64 x10.Target, .int .i64 x10.Offset, .int .i64 x10.Scale, .int .i64 x10.Error, .int .i64 x10.Drift, .int .i64 x10.Life]], 0⟩])] mixed (by kernel_rfl) rfl (lenAll (all1 rfl all0)) rfl (low, [⟨24, 8, [.agg [.int .i64 x10.Address, .int .i64 x10.Kind, .int .i64 x10.Target, .int .i64 x10.Offset, .int .i64 x10.Scale, .int .i64 x10.Error, .int .i64 x10.Drift, .int .i64 x10.Life]], 0⟩]) rfl rfl ?_
              refine dops_rdW [(low, [⟨24, 8, [.agg [.int .i64 x10.Address, .int .i64 x10.Kind, .int .i64 x10.Target, .int .i64 x10.Offset, .int .i64 x10.Scale, .int .i64 x10.Error, .int .i64 x10.Drift, .int .i64 x10.Life]], 0⟩])] rfl rfl (all1 (VRd.ntl (rd_loadN (ds := [.int .i64 x10.Address, .int .i64 x10.Kind, .int .i64 x10.Target, .int .i64 x10.Offset, .int .i64 x10.Scale, .int .i64 x10.Error, .int .i64 x10.Drift, .int .i64 x10.Life]) rfl (getO_N rfl rfl) rfl ta_24 ts_24 rfl rfl rfl)) all0) ?_
              refine dops_rdW [(low, [⟨24, 8, [.agg [.int .i64 x10.Address, .int .i64 x10.Kind, .int .i64 x10.Target, .int .i64 x10.Offset, .int .i64 x10.Scale, .int .i64 x10.Error, .int .i64 x10.Drift, .int .i64 x10.Life]], 0⟩])] rfl rfl (all1 (VRd.ntl (rd_mvI rfl)) all0) ?_
              refine dops_rdW [(low, [⟨24, 8, [.agg [.int .i64 x10.Address, .int .i64 x10.Kind, .int .i64 x10.Target, .int .i64 x10.Offset, .int .i64 x10.Scale, .int .i64 x10.Error, .int .i64 x10.Drift, .int .i64 x10.Life]], 0⟩])] rfl rfl (all1 (nt_of (vef_callP rfl Try.call15 (F_sensor_Value_ok h14 _))) all0) ?_
              refine dops_rdW [(low, [⟨24, 8, [.agg [.int .i64 x10.Address, .int .i64 x10.Kind, .int .i64 x10.Target, .int .i64 x10.Offset, .int .i64 x10.Scale, .int .i64 x10.Error, .int .i64 x10.Drift, .int .i64 x10.Life]], 0⟩])] rfl rfl (all1 (VRd.ntl (rd_loadN (ds := [.int .i64 x10.Address, .int .i64 x10.Kind, .int .i64 x10.Target, .int .i64 x10.Offset, .int .i64 x10.Scale, .int .i64 x10.Error, .int .i64 x10.Drift, .int .i64 x10.Life]) rfl (getO_N rfl rfl) rfl ta_24 ts_24 rfl rfl rfl)) all0) ?_
              refine dops_rdW [(low, [⟨24, 8, [.agg [.int .i64 x10.Address, .int .i64 x10.Kind, .int .i64 x10.Target, .int .i64 x10.Offset, .int .i64 x10.Scale, .int .i64 x10.Error, .int .i64 x10.Drift, .int .i64 x10.Life]], 0⟩])] rfl rfl (all1 (VRd.ntl (rd_mvI rfl)) all0) ?_
              refine dops_rdW [(low, [⟨24, 8, [.agg [.int .i64 x10.Address, .int .i64 x10.Kind, .int .i64 x10.Target, .int .i64 x10.Offset, .int .i64 x10.Scale, .int .i64 x10.Error, .int .i64 x10.Drift, .int .i64 x10.Life]], 0⟩])] rfl rfl (all1 (nt_of (vef_callP rfl Try.call16 (F_ref05_Value_ok h16 _))) all0) ?_
              refine dops_rdW [(low, [⟨24, 8, [.agg [.int .i64 x10.Address, .int .i64 x10.Kind, .int .i64 x10.Target, .int .i64 x10.Offset, .int .i64 x10.Scale, .int .i64 x10.Error, .int .i64 x10.Drift, .int .i64 x10.Life]], 0⟩])] rfl rfl (all1 (VRd.ntl (rd_neqV (tab := eqTab) eqTab_ok rfl rfl eqg_33 rfl)) all0) ?_
              refine dops_rdW [(low, [⟨24, 8, [.agg [.int .i64 x10.Address, .int .i64 x10.Kind, .int .i64 x10.Target, .int .i64 x10.Offset, .int .i64 x10.Scale, .int .i64 x10.Error, .int .i64 x10.Drift, .int .i64 x10.Life]], 0⟩])] rfl rfl (all1 (VRd.ntl (rd_mvB rfl)) all0) ?_
              refine dops_takeW [(low, [⟨24, 8, [.agg [.int .i64 x10.Address, .int .i64 x10.Kind, .int .i64 x10.Target, .int .i64 x10.Offset, .int .i64 x10.Scale, .int .i64 x10.Error, .int .i64 x10.Drift, .int .i64 x10.Life]], 0⟩])] rfl rfl rfl (congrArg PV.bool c17) (all1 (VRd.ntl (rd_loadN (ds := [.int .i64 x10.Address, .int .i64 x10.Kind, .int .i64 x10.Target, .int .i64 x10.Offset, .int .i64 x10.Scale, .int .i64 x10.Error, .int .i64 x10.Drift, .int .i64 x10.Life]) rfl (getO_N rfl rfl) rfl ta_24 ts_24 rfl rfl rfl)) all0) ?_
              refine dops_takeW [(low, [⟨24, 8, [.agg [.int .i64 x10.Address, .int .i64 x10.Kind, .int .i64 x10.Target, .int .i64 x10.Offset, .int .i64 x10.Scale, .int .i64 x10.Error, .int .i64 x10.Drift, .int .i64 x10.Life]], 0⟩])] rfl rfl rfl (congrArg PV.bool c17) (all1 (VRd.ntl (rd_mvI rfl)) all0) ?_
              refine dops_takeW [(low, [⟨24, 8, [.agg [.int .i64 x10.Address, .int .i64 x10.Kind, .int .i64 x10.Target, .int .i64 x10.Offset, .int .i64 x10.Scale, .int .i64 x10.Error, .int .i64 x10.Drift, .int .i64 x10.Life]], 0⟩])] rfl rfl rfl (congrArg PV.bool c17) (all1 (nt_of (vef_callP rfl Try.call15 (F_sensor_Value_ok h19 _))) all0) ?_
              refine dops_takeW [(low, [⟨24, 8, [.agg [.int .i64 x10.Address, .int .i64 x10.Kind, .int .i64 x10.Target, .int .i64 x10.Offset, .int .i64 x10.Scale, .int .i64 x10.Error, .int .i64 x10.Drift, .int .i64 x10.Life]], 0⟩])] rfl rfl rfl (congrArg PV.bool c17) (all1 (VRd.ntl (rd_loadN (ds := [.int .i64 x10.Address, .int .i64 x10.Kind, .int .i64 x10.Target, .int .i64 x10.Offset, .int .i64 x10.Scale, .int .i64 x10.Error, .int .i64 x10.Drift, .int .i64 x10.Life]) rfl (getO_N rfl rfl) rfl ta_24 ts_24 rfl rfl rfl)) all0) ?_
              refine dops_takeW [(low, [⟨24, 8, [.agg [.int .i64 x10.Address, .int .i64 x10.Kind, .int .i64 x10.Target, .int .i64 x10.Offset, .int .i64 x10.Scale, .int .i64 x10.Error, .int .i64 x10.Drift, .int .i64 x10.Life]], 0⟩])] rfl rfl rfl (congrArg PV.bool c17) (all1 (VRd.ntl (rd_mvI rfl)) all0) ?_
              refine dops_takeW [(low, [⟨24, 8, [.agg [.int .i64 x10.Address, .int .i64 x10.Kind, .int .i64 x10.Target, .int .i64 x10.Offset, .int .i64 x10.Scale, .int .i64 x10.Error, .int .i64 x10.Drift, .int .i64 x10.Life]], 0⟩])] rfl rfl rfl (congrArg PV.bool c17) (all1 (nt_of (vef_callP rfl Try.call16 (F_ref05_Value_ok h21 _))) all0) ?_
              refine dops_takeW [(low, [⟨24, 8, [.agg [.int .i64 x10.Address, .int .i64 x10.Kind, .int .i64 x10.Target, .int .i64 x10.Offset, .int .i64 x10.Scale, .int .i64 x10.Error, .int .i64 x10.Drift, .int .i64 x10.Life]], 0⟩])] rfl rfl rfl (congrArg PV.bool c17) (all1 (VRd.ntl (rd_neqV (tab := eqTab) eqTab_ok rfl rfl eqg_33 rfl)) all0) ?_
              refine dops_rdW [(low, [⟨24, 8, [.agg [.int .i64 x10.Address, .int .i64 x10.Kind, .int .i64 x10.Target, .int .i64 x10.Offset, .int .i64 x10.Scale, .int .i64 x10.Error, .int .i64 x10.Drift, .int .i64 x10.Life]], 0⟩])] rfl rfl (all1 (VRd.ntl (rd_pickF (congrArg PV.bool c17) rfl)) all0) ?_
              refine dops_rdW [(low, [⟨24, 8, [.agg [.int .i64 x10.Address, .int .i64 x10.Kind, .int .i64 x10.Target, .int .i64 x10.Offset, .int .i64 x10.Scale, .int .i64 x10.Error, .int .i64 x10.Drift, .int .i64 x10.Life]], 0⟩])] rfl rfl (all1 (VRd.ntl (rd_mvB rfl)) all0) ?_
              refine dops_takeW [(low, [⟨24, 8, [.agg [.int .i64 x10.Address, .int .i64 x10.Kind, .int .i64 x10.Target, .int .i64 x10.Offset, .int .i64 x10.Scale, .int .i64 x10.Error, .int .i64 x10.Drift, .int .i64 x10.Life]], 0⟩])] rfl rfl rfl (congrArg PV.bool c22) (all1 (VRd.ntl (rd_loadN (ds := [.int .i64 x10.Address, .int .i64 x10.Kind, .int .i64 x10.Target, .int .i64 x10.Offset, .int .i64 x10.Scale, .int .i64 x10.Error, .int .i64 x10.Drift, .int .i64 x10.Life]) rfl (getO_N rfl rfl) rfl ta_24 ts_24 rfl rfl rfl)) all0) ?_
              refine dops_takeW [(low, [⟨24, 8, [.agg [.int .i64 x10.Address, .int .i64 x10.Kind, .int .i64 x10.Target, .int .i64 x10.Offset, .int .i64 x10.Scale, .int .i64 x10.Error, .int .i64 x10.Drift, .int .i64 x10.Life]], 0⟩])] rfl rfl rfl (congrArg PV.bool c22) (all1 (VRd.ntl (rd_mvI rfl)) all0) ?_
              refine dops_takeW [(low, [⟨24, 8, [.agg [.int .i64 x10.Address, .int .i64 x10.Kind, .int .i64 x10.Target, .int .i64 x10.Offset, .int .i64 x10.Scale, .int .i64 x10.Error, .int .i64 x10.Drift, .int .i64 x10.Life]], 0⟩])] rfl rfl rfl (congrArg PV.bool c22) (all1 (VRd.ntl (rd_rem rfl rfl (by decide) rfl)) all0) ?_
              refine dops_takeW [(low, [⟨24, 8, [.agg [.int .i64 x10.Address, .int .i64 x10.Kind, .int .i64 x10.Target, .int .i64 x10.Offset, .int .i64 x10.Scale, .int .i64 x10.Error, .int .i64 x10.Drift, .int .i64 x10.Life]], 0⟩])] rfl rfl rfl (congrArg PV.bool c22) (all1 (nt_of (vef_callP rfl Try.call15 (F_sensor_Value_ok h24 _))) all0) ?_
              refine dops_takeW [(low, [⟨24, 8, [.agg [.int .i64 x10.Address, .int .i64 x10.Kind, .int .i64 x10.Target, .int .i64 x10.Offset, .int .i64 x10.Scale, .int .i64 x10.Error, .int .i64 x10.Drift, .int .i64 x10.Life]], 0⟩])] rfl rfl rfl (congrArg PV.bool c22) (all1 (VRd.ntl (rd_loadN (ds := [.int .i64 x10.Address, .int .i64 x10.Kind, .int .i64 x10.Target, .int .i64 x10.Offset, .int .i64 x10.Scale, .int .i64 x10.Error, .int .i64 x10.Drift, .int .i64 x10.Life]) rfl (getO_N rfl rfl) rfl ta_24 ts_24 rfl rfl rfl)) all0) ?_
              refine dops_takeW [(low, [⟨24, 8, [.agg [.int .i64 x10.Address, .int .i64 x10.Kind, .int .i64 x10.Target, .int .i64 x10.Offset, .int .i64 x10.Scale, .int .i64 x10.Error, .int .i64 x10.Drift, .int .i64 x10.Life]], 0⟩])] rfl rfl rfl (congrArg PV.bool c22) (all1 (VRd.ntl (rd_mvI rfl)) all0) ?_
              refine dops_takeW [(low, [⟨24, 8, [.agg [.int .i64 x10.Address, .int .i64 x10.Kind, .int .i64 x10.Target, .int .i64 x10.Offset, .int .i64 x10.Scale, .int .i64 x10.Error, .int .i64 x10.Drift, .int .i64 x10.Life]], 0⟩])] rfl rfl rfl (congrArg PV.bool c22) (all1 (VRd.ntl (rd_rem rfl rfl (by decide) rfl)) all0) ?_
              refine dops_takeW [(low, [⟨24, 8, [.agg [.int .i64 x10.Address, .int .i64 x10.Kind, .int .i64 x10.Target, .int .i64 x10.Offset, .int .i64 x10.Scale, .int .i64 x10.Error, .int .i64 x10.Drift, .int .i64 x10.Life]], 0⟩])] rfl rfl rfl (congrArg PV.bool c22) (all1 (nt_of (vef_callP rfl Try.call16 (F_ref05_Value_ok h26 _))) all0) ?_
              refine dops_takeW [(low, [⟨24, 8, [.agg [.int .i64 x10.Address, .int .i64 x10.Kind, .int .i64 x10.Target, .int .i64 x10.Offset, .int .i64 x10.Scale, .int .i64 x10.Error, .int .i64 x10.Drift, .int .i64 x10.Life]], 0⟩])] rfl rfl rfl (congrArg PV.bool c22) (all1 (VRd.ntl (rd_neqV (tab := eqTab) eqTab_ok rfl rfl eqg_33 rfl)) all0) ?_
              refine dops_rdW [(low, [⟨24, 8, [.agg [.int .i64 x10.Address, .int .i64 x10.Kind, .int .i64 x10.Target, .int .i64 x10.Offset, .int .i64 x10.Scale, .int .i64 x10.Error, .int .i64 x10.Drift, .int .i64 x10.Life]], 0⟩])] rfl rfl (all1 (VRd.ntl (rd_pickF (congrArg PV.bool c22) rfl)) all0) ?_
              refine dops_nil ?_
              obtain rfl := Option.some.inj hF
              refine onlyE ?_
              exact weak_pick rfl [] (by decide) ⟨rn_low rfl (.int _ _), rn_low rfl (.int _ _), rn_low rfl (.vs _ _), rn_low rfl (.int _ _), rn_low rfl (.int _ _), rn_low rfl (.bool _), trivial⟩ trivial
        · rintro _ _ _ _ ⟨rfl, hw⟩
          refine ⟨_, _, _, hw, ?_⟩
          refine vwp_cond rfl (fun c27 => ?_) (fun c27 => ?_)
          · have hF := bifT c27 hF
            refine vwp_seq ?_
            refine vwp_region ?_
            refine vops_rd (rd_asB rfl) rfl ?_
            refine vops_nil ?_
            refine vwp_ret ?_
            obtain rfl := Option.some.inj hF
            refine onlyE ?_
            exact weak_sub ⟨rfl, trivial⟩
          · have hF := bifF c27 hF
            refine vwp_skip ?_
            refine vwp_region ?_
            refine vops_rd (rd_add rfl rfl rfl) rfl ?_
            refine vops_rd (rd_mvI rfl) rfl ?_
            refine vops_nil ?_
            obtain rfl := Option.some.inj hF
            refine onlyE ?_
            exact weak_sub ⟨rfl, rfl, rfl, rfl, rfl, trivial⟩
      · have hF := bifF c9 hF
        refine vwp_exit ?_
        obtain rfl := Option.some.inj hF
        refine onlyE ?_
        exact weak_sub trivial
    · rcases o6 with j7 | j8
      · replace hF := elimL hF
        rintro _ _ _ _ ⟨rfl, hw⟩
        refine ⟨_, _, _, hw, ?_⟩
        obtain rfl := Option.some.inj hF
        refine fnR ?_
        exact weak_sub ⟨rfl, trivial⟩
      · replace hF := elimR hF
        rintro _ _ _ _ ⟨rfl, hw⟩
        refine ⟨_, _, _, hw, ?_⟩
        refine vwp_seq ?_
        refine vwp_region ?_
        obtain ⟨x28, h29, hF⟩ := bnd hF
        refine vops_efE (vef_callP rfl Try.call13 (F_law05_awake_ok h29 _)) rfl ?_
        refine vops_rd (rd_asB rfl) rfl ?_
        refine vops_nil ?_
        refine vwp_ret ?_
        obtain rfl := Option.some.inj hF
        refine fnR ?_
        exact weak_sub ⟨rfl, trivial⟩
  · rintro _ _ _ _ ⟨he, hw⟩
    refine ⟨_, _, _, hw, ?_⟩
    exact bodyQ_pure he [.bool r] ⟨rfl, trivial⟩ (.bool _) ⟨rfl, rfl⟩

theorem F_draw_Codes_Frame_ok0 {p0 : T_draw_Codes} {r : T_draw_Codes × T_Frame} (hF : F_draw_Codes_Frame p0 = some r) {low0 : List AObj} {q0 w0 : Nat} (hq0 : q0 < low0.length) :
    VCalls Try.prog 21 [.ptr q0 w0 0 0] (low0.set q0 ⟨64, 2, [.agg [.vs 1 (List.map (PV.int .u8) p0.l), .int .i64 p0.at_]], w0⟩) fun x low' => x = .agg [.int .i64 r.2.Address, .int .i64 r.2.Kind, .vs 1 (List.map (PV.int .u8) r.2.Data)] ∧ low' = low0.set q0 ⟨64, 2, [.agg [.vs 1 (List.map (PV.int .u8) r.1.l), .int .i64 r.1.at_]], w0⟩ := by
  refine vcalls_of_body (nt := 34) (rs := [.cell 2 37]) Try.func21 rfl rfl (Nat.le_of_ble_eq_true rfl) rfl ?_
  refine vwp_monoW (Q' := FnE (fun E' lw lc => Weak E' lw lc [(2, .ptr (low0.length + 0) 0 0 0)] (low0.set q0 ⟨64, 2, [.agg [.vs 1 (List.map (PV.int .u8) r.1.l), .int .i64 r.1.at_]], w0⟩) [⟨37, 3, [.agg [.int .i64 r.2.Address, .int .i64 r.2.Kind, .vs 1 (List.map (PV.int .u8) r.2.Data)]], 0⟩])) ?_ ?_
  · unfold F_draw_Codes_Frame at hF
    refine vwp_seq ?_
    refine vwp_region ?_
    refine vops_efE (vef_allocN List.length_set rfl tz_37 rfl rfl (Nat.succ_pos _) rfl) rfl ?_
    refine vops_nil ?_
    refine vwp_seq ?_
    refine vwp_region ?_
    obtain ⟨x1, h2, hF⟩ := bnd hF
    obtain ⟨x3, h4, hF⟩ := bnd hF
    obtain ⟨x5, h6, hF⟩ := bnd hF
    refine vops_rd (rd_mvP rfl) rfl ?_
    refine vops_efE (vef_callL hq0 (o' := ⟨64, 2, [.agg [.vs 1 (List.map (PV.int .u8) x1.1.l), .int .i64 x1.1.at_]], w0⟩) (ltObj_es ⟨(lt_agg ⟨.vs _ _, .int _ _, trivial⟩), trivial⟩) rfl Try.call20 (F_draw_Codes_Next_ok h2 (get_low hq0))) rfl ?_
    refine vops_rd (rd_mvP rfl) rfl ?_
    refine vops_efE (vef_callL hq0 (o' := ⟨64, 2, [.agg [.vs 1 (List.map (PV.int .u8) x3.1.l), .int .i64 x3.1.at_]], w0⟩) (ltObj_es ⟨(lt_agg ⟨.vs _ _, .int _ _, trivial⟩), trivial⟩) rfl Try.call20 (F_draw_Codes_Next_ok h4 (get_low hq0))) rfl ?_
    refine vops_rd (rd_conv rfl us_3 ti_5 rfl) rfl ?_
    refine vops_rd (rd_mvP rfl) rfl ?_
    refine vops_efE (vef_callL hq0 (o' := ⟨64, 2, [.agg [.vs 1 (List.map (PV.int .u8) x5.1.l), .int .i64 x5.1.at_]], w0⟩) (ltObj_es ⟨(lt_agg ⟨.vs _ _, .int _ _, trivial⟩), trivial⟩) rfl Try.call20 (F_draw_Codes_Next_ok h6 (get_low hq0))) rfl ?_
    refine vops_rd (rd_conv rfl us_3 ti_5 rfl) rfl ?_
    refine vops_efE (vef_litF (es := List.map (PV.int .u8) [(IntKind.u8.wrap x3.2), (IntKind.u8.wrap x5.2)]) ⟨rfl, rfl, rfl, rfl, trivial⟩ rfl rfl (nt_all rfl) te_22 ts_5 tz_5 rfl rfl (Nat.succ_pos _) (by decide) (lt_map (fun _ => .int _ _))) rfl ?_
    refine vops_rd (rd_build (vs := [(0, .int .i64 x1.2), (1, .int .i64 1), (2, .vs 1 (List.map (PV.int .u8) [(IntKind.u8.wrap x3.2), (IntKind.u8.wrap x5.2)]))]) (ds := [.int .i64 x1.2, .int .i64 1, .vs 1 (List.map (PV.int .u8) [(IntKind.u8.wrap x3.2), (IntKind.u8.wrap x5.2)])]) tz_37 rfl rfl tp_37 ⟨rfl, rfl, rfl, rfl, rfl, rfl, trivial⟩ (nt_all2 rfl) rfl) rfl ?_
    refine vops_efE (vef_allocN List.length_set rfl tz_37 rfl rfl (Nat.succ_pos _) rfl) rfl ?_
    refine vops_efE (vef_store (p := .agg [.int .i64 x1.2, .int .i64 1, .vs 1 (List.map (PV.int .u8) [(IntKind.u8.wrap x3.2), (IntKind.u8.wrap x5.2)])]) (e' := .agg [.int .i64 x1.2, .int .i64 1, .vs 1 (List.map (PV.int .u8) [(IntKind.u8.wrap x3.2), (IntKind.u8.wrap x5.2)])]) rfl (getO_N List.length_set rfl) rfl rfl ts_37 rfl (nt_ne rfl) rfl (Nat.le_of_ble_eq_true rfl) rfl (setO_N List.length_set rfl)) rfl ?_
    refine vops_nil ?_
    refine vwp_seq ?_
    refine vwp_seq ?_
    refine vwp_region ?_
    obtain ⟨x7, h8, hF⟩ := bnd hF
    refine vops_rd (rd_mvP rfl) rfl ?_
    refine vops_efE (vef_callL hq0 (o' := ⟨64, 2, [.agg [.vs 1 (List.map (PV.int .u8) x7.1.l), .int .i64 x7.1.at_]], w0⟩) (ltObj_es ⟨(lt_agg ⟨.vs _ _, .int _ _, trivial⟩), trivial⟩) rfl Try.call20 (F_draw_Codes_Next_ok h8 (get_low hq0))) rfl ?_
    refine vops_nil ?_
    obtain ⟨o9, ho9, hF⟩ := bnd hF
    refine vwp_monoW (Q' := (fun o9 => OnlyE .normal (fun E' lw lc => Weak E' lw lc [(2, .ptr (low0.length + 0) 0 0 0), (3, .ptr (low0.length + 1) 0 0 0)] (low0.set q0 ⟨64, 2, [.agg [.vs 1 (List.map (PV.int .u8) o9.2.l), .int .i64 o9.2.at_]], w0⟩) [⟨37, 3, [.agg [.int .i64 0, .int .i64 0, .nils]], 0⟩, ⟨37, 3, [.agg [.int .i64 o9.1.Address, .int .i64 o9.1.Kind, .vs 1 (List.map (PV.int .u8) o9.1.Data)]], 0⟩])) o9) ?_ ?_
    · replace hF := ho9
      refine vwp_block ?_
      refine vwp_seq ?_
      refine vwp_region ?_
      refine vops_rd (rd_eql rfl rfl) rfl ?_
      refine vops_rd (rd_asB rfl) rfl ?_
      refine vops_nil ?_
      refine vwp_cond rfl (fun c10 => ?_) (fun c10 => ?_)
      · have hF := bifT c10 hF
        refine vwp_region ?_
        refine vops_rd (rd_fieldAddr rfl tf_37_1 ts_3 (by decide)) rfl ?_
        refine vops_efE (vef_store (p := .int .i64 2) (e' := .agg [.int .i64 x1.2, .int .i64 2, .vs 1 (List.map (PV.int .u8) [(IntKind.u8.wrap x3.2), (IntKind.u8.wrap x5.2)])]) rfl (getO_N List.length_set rfl) rfl rfl ts_3 rfl (nt_ne rfl) rfl (Nat.le_of_ble_eq_true rfl) rfl (setO_N List.length_set rfl)) rfl ?_
        refine vops_rd (rd_fieldAddr rfl tf_37_2 ts_22 (by decide)) rfl ?_
        refine vops_efE (vef_store (p := .nils) (e' := .agg [.int .i64 x1.2, .int .i64 2, .nils]) rfl (getO_N List.length_set rfl) rfl rfl ts_22 rfl (nt_ne rfl) rfl (Nat.le_of_ble_eq_true rfl) rfl (setO_N List.length_set rfl)) rfl ?_
        refine vops_nil ?_
        obtain rfl := Option.some.inj hF
        refine onlyE ?_
        refine Weak.trans (weak_conv (E' := [(2, .ptr (low0.length + 0) 0 0 0), (3, .ptr (low0.length + 1) 0 0 0)]) (loc1 := [⟨37, 3, [.agg [.int .i64 0, .int .i64 0, .nils]], 0⟩, ⟨37, 3, [.agg [.int .i64 x1.2, .int .i64 2, .vs 1 (List.map (PV.int .u8) ([] : List Int))]], 0⟩]) ⟨0, 0, [], 0⟩ ⟨cv_same rfl, cv_same rfl, trivial⟩ ⟨.refl _, cvo_agg ⟨cv_same rfl, cv_same rfl, cv_nil rfl rfl, trivial⟩, trivial⟩) ?_
        exact weak_sub ⟨rfl, rfl, trivial⟩
      · have hF := bifF c10 hF
        refine vwp_seq ?_
        refine vwp_region ?_
        refine vops_rd (rd_eql rfl rfl) rfl ?_
        refine vops_rd (rd_asB rfl) rfl ?_
        refine vops_nil ?_
        refine vwp_cond rfl (fun c11 => ?_) (fun c11 => ?_)
        · have hF := bifT c11 hF
          refine vwp_region ?_
          obtain ⟨x12, h13, hF⟩ := bnd hF
          refine vops_rd (rd_mvP rfl) rfl ?_
          refine vops_efE (vef_callL hq0 (o' := ⟨64, 2, [.agg [.vs 1 (List.map (PV.int .u8) x12.1.l), .int .i64 x12.1.at_]], w0⟩) (ltObj_es ⟨(lt_agg ⟨.vs _ _, .int _ _, trivial⟩), trivial⟩) rfl Try.call20 (F_draw_Codes_Next_ok h13 (get_low hq0))) rfl ?_
          refine vops_rd (rd_fieldAddr rfl tf_37_1 ts_3 (by decide)) rfl ?_
          refine vops_efE (vef_store (p := .int .i64 x12.2) (e' := .agg [.int .i64 x1.2, .int .i64 x12.2, .vs 1 (List.map (PV.int .u8) [(IntKind.u8.wrap x3.2), (IntKind.u8.wrap x5.2)])]) rfl (getO_N List.length_set rfl) rfl rfl ts_3 rfl (nt_ne rfl) rfl (Nat.le_of_ble_eq_true rfl) rfl (setO_N List.length_set rfl)) rfl ?_
          refine vops_nil ?_
          obtain rfl := Option.some.inj hF
          refine onlyE ?_
          exact weak_sub ⟨rfl, rfl, trivial⟩
        · have hF := bifF c11 hF
          refine vwp_seq ?_
          refine vwp_region ?_
          refine vops_rd (rd_eql rfl rfl) rfl ?_
          refine vops_rd (rd_asB rfl) rfl ?_
          refine vops_nil ?_
          refine vwp_cond rfl (fun c14 => ?_) (fun c14 => ?_)
          · have hF := bifT c14 hF
            obtain ⟨x15, h16, hF⟩ := bnd hF
            obtain ⟨x17, h18, hF⟩ := bnd hF
            refine vwp_drawn [[], [0], [], [2], [0, 1, 2, 3], [0, 1, 2, 3, 4], [0, 1, 2, 3, 4, 5]] [false, false, false, true, false, false, true] [((low0.set q0 ⟨64, 2, [.agg [.vs 1 (List.map (PV.int .u8) x7.1.l), .int .i64 x7.1.at_]], w0⟩), [⟨37, 3, [.agg [.int .i64 0, .int .i64 0, .nils]], 0⟩, ⟨37, 3, [.agg [.int .i64 x1.2, .int .i64 1, .vs 1 (List.map (PV.int .u8) [(IntKind.u8.wrap x3.2), (IntKind.u8.wrap x5.2)])]], 0⟩]), ((low0.set q0 ⟨64, 2, [.agg [.vs 1 (List.map (PV.int .u8) x15.1.l), .int .i64 x15.1.at_]], w0⟩), [⟨37, 3, [.agg [.int .i64 0, .int .i64 0, .nils]], 0⟩, ⟨37, 3, [.agg [.int .i64 x1.2, .int .i64 1, .vs 1 (List.map (PV.int .u8) [(IntKind.u8.wrap x3.2), (IntKind.u8.wrap x5.2)])]], 0⟩]), ((low0.set q0 ⟨64, 2, [.agg [.vs 1 (List.map (PV.int .u8) x15.1.l), .int .i64 x15.1.at_]], w0⟩), [⟨37, 3, [.agg [.int .i64 0, .int .i64 0, .nils]], 0⟩, ⟨37, 3, [.agg [.int .i64 x1.2, .int .i64 1, .vs 1 (List.map (PV.int .u8) x17)]], 0⟩])] mixed (by kernel_rfl) rfl (lenAll (all1 len_set2 (all1 len_set2 (all1 len_set2 all0)))) rfl ((low0.set q0 ⟨64, 2, [.agg [.vs 1 (List.map (PV.int .u8) x15.1.l), .int .i64 x15.1.at_]], w0⟩), [⟨37, 3, [.agg [.int .i64 0, .int .i64 0, .nils]], 0⟩, ⟨37, 3, [.agg [.int .i64 x1.2, .int .i64 1, .vs 1 (List.map (PV.int .u8) x17)]], 0⟩]) rfl rfl ?_
            refine dops_rdW [((low0.set q0 ⟨64, 2, [.agg [.vs 1 (List.map (PV.int .u8) x7.1.l), .int .i64 x7.1.at_]], w0⟩), [⟨37, 3, [.agg [.int .i64 0, .int .i64 0, .nils]], 0⟩, ⟨37, 3, [.agg [.int .i64 x1.2, .int .i64 1, .vs 1 (List.map (PV.int .u8) [(IntKind.u8.wrap x3.2), (IntKind.u8.wrap x5.2)])]], 0⟩]), ((low0.set q0 ⟨64, 2, [.agg [.vs 1 (List.map (PV.int .u8) x15.1.l), .int .i64 x15.1.at_]], w0⟩), [⟨37, 3, [.agg [.int .i64 0, .int .i64 0, .nils]], 0⟩, ⟨37, 3, [.agg [.int .i64 x1.2, .int .i64 1, .vs 1 (List.map (PV.int .u8) [(IntKind.u8.wrap x3.2), (IntKind.u8.wrap x5.2)])]], 0⟩])] rfl rfl (all1 (VRd.ntl (rd_fieldAddr rfl tf_37_2 ts_22 (by decide))) (all1 (VRd.ntl (rd_fieldAddr rfl tf_37_2 ts_22 (by decide))) all0)) ?_
            refine dops_rdW [((low0.set q0 ⟨64, 2, [.agg [.vs 1 (List.map (PV.int .u8) x7.1.l), .int .i64 x7.1.at_]], w0⟩), [⟨37, 3, [.agg [.int .i64 0, .int .i64 0, .nils]], 0⟩, ⟨37, 3, [.agg [.int .i64 x1.2, .int .i64 1, .vs 1 (List.map (PV.int .u8) [(IntKind.u8.wrap x3.2), (IntKind.u8.wrap x5.2)])]], 0⟩]), ((low0.set q0 ⟨64, 2, [.agg [.vs 1 (List.map (PV.int .u8) x15.1.l), .int .i64 x15.1.at_]], w0⟩), [⟨37, 3, [.agg [.int .i64 0, .int .i64 0, .nils]], 0⟩, ⟨37, 3, [.agg [.int .i64 x1.2, .int .i64 1, .vs 1 (List.map (PV.int .u8) [(IntKind.u8.wrap x3.2), (IntKind.u8.wrap x5.2)])]], 0⟩])] rfl rfl (all1 (VRd.ntl (rd_load1 rfl (getO_N List.length_set rfl) rfl ta_22 rfl)) (all1 (VRd.ntl (rd_load1 rfl (getO_N List.length_set rfl) rfl ta_22 rfl)) all0)) ?_
            refine dops_rdW [((low0.set q0 ⟨64, 2, [.agg [.vs 1 (List.map (PV.int .u8) x7.1.l), .int .i64 x7.1.at_]], w0⟩), [⟨37, 3, [.agg [.int .i64 0, .int .i64 0, .nils]], 0⟩, ⟨37, 3, [.agg [.int .i64 x1.2, .int .i64 1, .vs 1 (List.map (PV.int .u8) [(IntKind.u8.wrap x3.2), (IntKind.u8.wrap x5.2)])]], 0⟩])] rfl rfl (all1 (VRd.ntl (rd_mvP rfl)) all0) ?_
            refine dops_ef (M := ((low0.set q0 ⟨64, 2, [.agg [.vs 1 (List.map (PV.int .u8) x7.1.l), .int .i64 x7.1.at_]], w0⟩), [⟨37, 3, [.agg [.int .i64 0, .int .i64 0, .nils]], 0⟩, ⟨37, 3, [.agg [.int .i64 x1.2, .int .i64 1, .vs 1 (List.map (PV.int .u8) [(IntKind.u8.wrap x3.2), (IntKind.u8.wrap x5.2)])]], 0⟩])) (M' := ((low0.set q0 ⟨64, 2, [.agg [.vs 1 (List.map (PV.int .u8) x15.1.l), .int .i64 x15.1.at_]], w0⟩), [⟨37, 3, [.agg [.int .i64 0, .int .i64 0, .nils]], 0⟩, ⟨37, 3, [.agg [.int .i64 x1.2, .int .i64 1, .vs 1 (List.map (PV.int .u8) [(IntKind.u8.wrap x3.2), (IntKind.u8.wrap x5.2)])]], 0⟩])) rfl rfl rfl (vef_callL hq0 (o' := ⟨64, 2, [.agg [.vs 1 (List.map (PV.int .u8) x15.1.l), .int .i64 x15.1.at_]], w0⟩) (ltObj_es ⟨(lt_agg ⟨.vs _ _, .int _ _, trivial⟩), trivial⟩) rfl Try.call20 (F_draw_Codes_Next_ok h16 (get_low hq0))) ?_
            refine dops_rdW [((low0.set q0 ⟨64, 2, [.agg [.vs 1 (List.map (PV.int .u8) x15.1.l), .int .i64 x15.1.at_]], w0⟩), [⟨37, 3, [.agg [.int .i64 0, .int .i64 0, .nils]], 0⟩, ⟨37, 3, [.agg [.int .i64 x1.2, .int .i64 1, .vs 1 (List.map (PV.int .u8) [(IntKind.u8.wrap x3.2), (IntKind.u8.wrap x5.2)])]], 0⟩])] rfl rfl (all1 (VRd.ntl (rd_slV rfl te_22 ts_5 rfl ⟨_, rfl⟩ h18)) all0) ?_
            refine dops_rdW [((low0.set q0 ⟨64, 2, [.agg [.vs 1 (List.map (PV.int .u8) x15.1.l), .int .i64 x15.1.at_]], w0⟩), [⟨37, 3, [.agg [.int .i64 0, .int .i64 0, .nils]], 0⟩, ⟨37, 3, [.agg [.int .i64 x1.2, .int .i64 1, .vs 1 (List.map (PV.int .u8) [(IntKind.u8.wrap x3.2), (IntKind.u8.wrap x5.2)])]], 0⟩])] rfl rfl (all1 (VRd.ntl (rd_fieldAddr rfl tf_37_2 ts_22 (by decide))) all0) ?_
            refine dops_ef (M := ((low0.set q0 ⟨64, 2, [.agg [.vs 1 (List.map (PV.int .u8) x15.1.l), .int .i64 x15.1.at_]], w0⟩), [⟨37, 3, [.agg [.int .i64 0, .int .i64 0, .nils]], 0⟩, ⟨37, 3, [.agg [.int .i64 x1.2, .int .i64 1, .vs 1 (List.map (PV.int .u8) [(IntKind.u8.wrap x3.2), (IntKind.u8.wrap x5.2)])]], 0⟩])) (M' := ((low0.set q0 ⟨64, 2, [.agg [.vs 1 (List.map (PV.int .u8) x15.1.l), .int .i64 x15.1.at_]], w0⟩), [⟨37, 3, [.agg [.int .i64 0, .int .i64 0, .nils]], 0⟩, ⟨37, 3, [.agg [.int .i64 x1.2, .int .i64 1, .vs 1 (List.map (PV.int .u8) x17)]], 0⟩])) rfl rfl rfl (vef_store (p := .vs 1 (List.map (PV.int .u8) x17)) (e' := .agg [.int .i64 x1.2, .int .i64 1, .vs 1 (List.map (PV.int .u8) x17)]) rfl (getO_N List.length_set rfl) rfl rfl ts_22 rfl (nt_ne rfl) rfl (Nat.le_of_ble_eq_true rfl) rfl (setO_N List.length_set rfl)) ?_
            refine dops_nil ?_
            obtain rfl := Option.some.inj hF
            refine onlyE ?_
            exact weak_sub ⟨rfl, rfl, trivial⟩
          · have hF := bifF c14 hF
            refine vwp_skip ?_
            obtain rfl := Option.some.inj hF
            refine onlyE ?_
            exact weak_sub ⟨rfl, rfl, trivial⟩
    · rintro _ _ _ _ ⟨rfl, hw⟩
      refine ⟨_, _, _, hw, ?_⟩
      refine vwp_seq ?_
      refine vwp_region ?_
      refine vops_rd (rd_loadN (ds := [.int .i64 o9.1.Address, .int .i64 o9.1.Kind, .vs 1 (List.map (PV.int .u8) o9.1.Data)]) rfl (getO_N List.length_set rfl) rfl ta_37 ts_37 rfl rfl rfl) rfl ?_
      refine vops_efE (vef_store (p := .agg [.int .i64 o9.1.Address, .int .i64 o9.1.Kind, .vs 1 (List.map (PV.int .u8) o9.1.Data)]) (e' := .agg [.int .i64 o9.1.Address, .int .i64 o9.1.Kind, .vs 1 (List.map (PV.int .u8) o9.1.Data)]) rfl (getO_N List.length_set rfl) rfl rfl ts_37 rfl (nt_ne rfl) rfl (Nat.le_of_ble_eq_true rfl) rfl (setO_N List.length_set rfl)) rfl ?_
      refine vops_nil ?_
      refine vwp_ret ?_
      obtain rfl := Option.some.inj hF
      refine fnR ?_
      exact weak_pick List.length_set [(0, 0)] (by decide) ⟨rn_ptr 0 0 rfl rfl, trivial⟩ ⟨⟨_, rfl, rfl, .same _ _ _ _ (ltObj_es ⟨(lt_agg ⟨.int _ _, .int _ _, .vs _ _, trivial⟩), trivial⟩)⟩, trivial⟩
  · rintro _ _ _ _ ⟨he, hw⟩
    refine ⟨_, _, _, hw, ?_⟩
    exact bodyQ_pure he [.agg [.int .i64 r.2.Address, .int .i64 r.2.Kind, .vs 1 (List.map (PV.int .u8) r.2.Data)]] ⟨rd_loadN rfl (getO_N List.length_set rfl) rfl ta_37 ts_37 rfl rfl rfl, trivial⟩ ((lt_agg ⟨.int _ _, .int _ _, .vs _ _, trivial⟩)) ⟨rfl, rfl⟩

theorem F_draw_Codes_Frame_ok {p0 : T_draw_Codes} {r : T_draw_Codes × T_Frame} (hF : F_draw_Codes_Frame p0 = some r) {low : List AObj} {q0 w0 : Nat} (hq0 : low[q0]? = some ⟨64, 2, [.agg [.vs 1 (List.map (PV.int .u8) p0.l), .int .i64 p0.at_]], w0⟩) :
    VCalls Try.prog 21 [.ptr q0 w0 0 0] low fun x low' => x = .agg [.int .i64 r.2.Address, .int .i64 r.2.Kind, .vs 1 (List.map (PV.int .u8) r.2.Data)] ∧ low' = low.set q0 ⟨64, 2, [.agg [.vs 1 (List.map (PV.int .u8) r.1.l), .int .i64 r.1.at_]], w0⟩ := by
  obtain ⟨h1, h2⟩ := low_set hq0
  have h := F_draw_Codes_Frame_ok0 hF (w0 := w0) h1
  rw [← h2] at h
  exact h

theorem F_ref05_Decode_ok {p0 : List T_Sensor} {p1 : T_Frame} {p2 : Int} {r : T_Measure × Int} (hF : F_ref05_Decode p0 p1 p2 = some r) (low : List AObj) :
    VCalls Try.prog 23 [.vs 8 (List.map T_Sensor.enc p0), .agg [.int .i64 p1.Address, .int .i64 p1.Kind, .vs 1 (List.map (PV.int .u8) p1.Data)], .int .i64 p2] low fun x low' => x = .tup [.agg [.int .i64 r.1.Sensor, .int .i64 r.1.Time, .int .i64 r.1.Span.Low, .int .i64 r.1.Span.High], .int .i64 r.2] ∧ low' = low := by
  refine vcalls_of_body (nt := 98) (rs := [.cell 6 46, .tmp 7]) Try.func23 rfl rfl (Nat.le_of_ble_eq_true rfl) rfl ?_
  refine vwp_monoW (Q' := FnE (fun E' lw lc => Weak E' lw lc [(6, .ptr (low.length + 0) 0 0 0), (7, .int .i64 r.2)] low [⟨46, 4, [.agg [.int .i64 r.1.Sensor, .int .i64 r.1.Time, .int .i64 r.1.Span.Low, .int .i64 r.1.Span.High]], 0⟩])) ?_ ?_
  · unfold F_ref05_Decode at hF
    refine vwp_seq ?_
    refine vwp_region ?_
    refine vops_efE (vef_boxN rfl rfl (v := .agg [.int .i64 p1.Address, .int .i64 p1.Kind, .vs 1 (List.map (PV.int .u8) p1.Data)]) rfl rfl (Nat.succ_pos _) rfl rfl) rfl ?_
    refine vops_efE (vef_allocN rfl rfl tz_46 rfl rfl (Nat.succ_pos _) rfl) rfl ?_
    refine vops_rd (rd_asI rfl) rfl ?_
    refine vops_nil ?_
    refine vwp_seq ?_
    refine vwp_seq ?_
    refine vwp_region ?_
    obtain ⟨x1, h2, hF⟩ := bnd hF
    refine vops_rd (rd_mvI rfl) rfl ?_
    refine vops_efE (vef_callP rfl Try.call29 (F_ref05_in_ok h2 _)) rfl ?_
    refine vops_rd (rd_not rfl) rfl ?_
    refine vops_nil ?_
    refine vwp_cond rfl (fun c3 => ?_) (fun c3 => ?_)
    · have hF := bifT c3 hF
      refine vwp_seq ?_
      refine vwp_region ?_
      refine vops_rd (rd_build (vs := []) (ds := [.int .i64 0, .int .i64 0, .int .i64 0, .int .i64 0]) tz_46 rfl rfl tp_46 trivial (nt_all2 rfl) rfl) rfl ?_
      refine vops_efE (vef_store (p := .agg [.int .i64 0, .int .i64 0, .int .i64 0, .int .i64 0]) (e' := .agg [.int .i64 0, .int .i64 0, .int .i64 0, .int .i64 0]) rfl (getO_N rfl rfl) rfl rfl ts_46 rfl (nt_ne rfl) rfl (Nat.le_of_ble_eq_true rfl) rfl (setO_N rfl rfl)) rfl ?_
      refine vops_rd (rd_asI rfl) rfl ?_
      refine vops_nil ?_
      refine vwp_ret ?_
      obtain rfl := Option.some.inj hF
      refine fnR ?_
      exact weak_pick rfl [(1, 0)] (by decide) ⟨rn_ptr 0 1 rfl rfl, rn_low rfl (.int _ _), trivial⟩ ⟨⟨_, rfl, rfl, .same _ _ _ _ (ltObj_es ⟨(lt_agg ⟨.int _ _, .int _ _, .int _ _, .int _ _, trivial⟩), trivial⟩)⟩, trivial⟩
    · have hF := bifF c3 hF
      refine vwp_skip ?_
      refine vwp_seq ?_
      refine vwp_region ?_
      refine vops_rd (rd_asI rfl) rfl ?_
      refine vops_nil ?_
      refine vwp_seq ?_
      refine vwp_seq ?_
      refine vwp_region ?_
      refine vops_rd (rd_mvV rfl) rfl ?_
      refine vops_rd (rd_to (rd_lenV rfl rfl te_31) (congrArg (fun n : Nat => PV.int .i64 (n : Int)) (List.length_map _))) rfl ?_
      refine vops_rd (rd_sub rfl rfl rfl) rfl ?_
      refine vops_rd (rd_asI rfl) rfl ?_
      refine vops_nil ?_
      refine vwp_block ?_
      obtain ⟨o5, ho5, hF⟩ := bnd hF
      refine vwp_monoW (vwp_loopC (F_ref05_Decode_L1 p0 p1) (fun s4 E' lw lc => Weak E' lw lc [(0, .vs 8 (List.map T_Sensor.enc p0)), (2, .int .i64 p2), (4, .ptr (low.length + 0) 0 0 0), (6, .ptr (low.length + 1) 0 0 0), (8, .int .i64 s4.1), (9, .int .i64 s4.2)] low [⟨37, 3, [.agg [.int .i64 p1.Address, .int .i64 p1.Kind, .vs 1 (List.map (PV.int .u8) p1.Data)]], 0⟩, ⟨46, 4, [.agg [.int .i64 0, .int .i64 0, .int .i64 0, .int .i64 0]], 0⟩]) (fun o5 => OnlyE (.exit 0) (fun E' lw lc => Weak E' lw lc [(0, .vs 8 (List.map T_Sensor.enc p0)), (2, .int .i64 p2), (4, .ptr (low.length + 0) 0 0 0), (6, .ptr (low.length + 1) 0 0 0), (8, .int .i64 o5)] low [⟨37, 3, [.agg [.int .i64 p1.Address, .int .i64 p1.Kind, .vs 1 (List.map (PV.int .u8) p1.Data)]], 0⟩, ⟨46, 4, [.agg [.int .i64 0, .int .i64 0, .int .i64 0, .int .i64 0]], 0⟩])) ho5 ?_ (by rintro _ _ _ _ ⟨h, _⟩ <;> cases h) ?_) ?_
      · exact weak_sub ⟨rfl, rfl, rfl, rfl, rfl, rfl, trivial⟩
      · rintro s4 os4 _ _ _ hF hw
        unfold F_ref05_Decode_L1 at hF
        refine vwp_weak hw ?_
        refine vwp_seq ?_
        refine vwp_seq ?_
        refine vwp_region ?_
        refine vops_rd (rd_mvI rfl) rfl ?_
        refine vops_rd (rd_geq rfl rfl) rfl ?_
        refine vops_nil ?_
        refine vwp_cond rfl (fun c6 => ?_) (fun c6 => ?_)
        · have hF := bifT c6 hF
          refine vwp_skip ?_
          refine vwp_seq ?_
          obtain ⟨o7, ho7, hF⟩ := bnd hF
          refine vwp_monoW (Q' := (fun o7 => OnlyE .normal (fun E' lw lc => Weak E' lw lc [(0, .vs 8 (List.map T_Sensor.enc p0)), (2, .int .i64 p2), (4, .ptr (low.length + 0) 0 0 0), (6, .ptr (low.length + 1) 0 0 0), (8, .int .i64 o7), (9, .int .i64 s4.2)] low [⟨37, 3, [.agg [.int .i64 p1.Address, .int .i64 p1.Kind, .vs 1 (List.map (PV.int .u8) p1.Data)]], 0⟩, ⟨46, 4, [.agg [.int .i64 0, .int .i64 0, .int .i64 0, .int .i64 0]], 0⟩])) o7) ?_ ?_
          · replace hF := ho7
            refine vwp_block ?_
            refine vwp_seq ?_
            obtain ⟨x8, h9, hF⟩ := bnd hF
            refine vwp_drawn [[], [], [0, 1], [0, 1, 2], [0, 1, 2, 3], [], [5], [0, 1, 2, 3, 4, 5, 6]] [false, false, false, false, false, false, false, false] [(low, [⟨37, 3, [.agg [.int .i64 p1.Address, .int .i64 p1.Kind, .vs 1 (List.map (PV.int .u8) p1.Data)]], 0⟩, ⟨46, 4, [.agg [.int .i64 0, .int .i64 0, .int .i64 0, .int .i64 0]], 0⟩])] mixed (by kernel_rfl) rfl (lenAll (all1 rfl all0)) rfl (low, [⟨37, 3, [.agg [.int .i64 p1.Address, .int .i64 p1.Kind, .vs 1 (List.map (PV.int .u8) p1.Data)]], 0⟩, ⟨46, 4, [.agg [.int .i64 0, .int .i64 0, .int .i64 0, .int .i64 0]], 0⟩]) rfl rfl ?_
            refine dops_rdW [(low, [⟨37, 3, [.agg [.int .i64 p1.Address, .int .i64 p1.Kind, .vs 1 (List.map (PV.int .u8) p1.Data)]], 0⟩, ⟨46, 4, [.agg [.int .i64 0, .int .i64 0, .int .i64 0, .int .i64 0]], 0⟩])] rfl rfl (all1 (VRd.ntl (rd_mvV rfl)) all0) ?_
            refine dops_rdW [(low, [⟨37, 3, [.agg [.int .i64 p1.Address, .int .i64 p1.Kind, .vs 1 (List.map (PV.int .u8) p1.Data)]], 0⟩, ⟨46, 4, [.agg [.int .i64 0, .int .i64 0, .int .i64 0, .int .i64 0]], 0⟩])] rfl rfl (all1 (VRd.ntl (rd_mvI rfl)) all0) ?_
            refine dops_rdW [(low, [⟨37, 3, [.agg [.int .i64 p1.Address, .int .i64 p1.Kind, .vs 1 (List.map (PV.int .u8) p1.Data)]], 0⟩, ⟨46, 4, [.agg [.int .i64 0, .int .i64 0, .int .i64 0, .int .i64 0]], 0⟩])] rfl rfl (all1 (VRd.ntl (rd_to (rd_ixV rfl rfl h9 te_31 ts_24) (v' := .vptr [.int .i64 x8.Address, .int .i64 x8.Kind, .int .i64 x8.Target, .int .i64 x8.Offset, .int .i64 x8.Scale, .int .i64 x8.Error, .int .i64 x8.Drift, .int .i64 x8.Life] 0) rfl)) all0) ?_
            refine dops_rdW [(low, [⟨37, 3, [.agg [.int .i64 p1.Address, .int .i64 p1.Kind, .vs 1 (List.map (PV.int .u8) p1.Data)]], 0⟩, ⟨46, 4, [.agg [.int .i64 0, .int .i64 0, .int .i64 0, .int .i64 0]], 0⟩])] rfl rfl (all1 (VRd.ntl (rd_fieldVaddr rfl tf_24_0 ts_3 (by decide))) all0) ?_
            refine dops_rdW [(low, [⟨37, 3, [.agg [.int .i64 p1.Address, .int .i64 p1.Kind, .vs 1 (List.map (PV.int .u8) p1.Data)]], 0⟩, ⟨46, 4, [.agg [.int .i64 0, .int .i64 0, .int .i64 0, .int .i64 0]], 0⟩])] rfl rfl (all1 (VRd.ntl (rd_loadV1 rfl ta_3 rfl)) all0) ?_
            refine dops_rdW [(low, [⟨37, 3, [.agg [.int .i64 p1.Address, .int .i64 p1.Kind, .vs 1 (List.map (PV.int .u8) p1.Data)]], 0⟩, ⟨46, 4, [.agg [.int .i64 0, .int .i64 0, .int .i64 0, .int .i64 0]], 0⟩])] rfl rfl (all1 (VRd.ntl (rd_fieldAddr rfl tf_37_0 ts_3 (by decide))) all0) ?_
            refine dops_rdW [(low, [⟨37, 3, [.agg [.int .i64 p1.Address, .int .i64 p1.Kind, .vs 1 (List.map (PV.int .u8) p1.Data)]], 0⟩, ⟨46, 4, [.agg [.int .i64 0, .int .i64 0, .int .i64 0, .int .i64 0]], 0⟩])] rfl rfl (all1 (VRd.ntl (rd_load1 rfl (getO_N rfl rfl) rfl ta_3 rfl)) all0) ?_
            refine dops_rdW [(low, [⟨37, 3, [.agg [.int .i64 p1.Address, .int .i64 p1.Kind, .vs 1 (List.map (PV.int .u8) p1.Data)]], 0⟩, ⟨46, 4, [.agg [.int .i64 0, .int .i64 0, .int .i64 0, .int .i64 0]], 0⟩])] rfl rfl (all1 (VRd.ntl (rd_eql rfl rfl)) all0) ?_
            refine dops_nil ?_
            refine vwp_cond rfl (fun c10 => ?_) (fun c10 => ?_)
            · have hF := bifT c10 hF
              refine vwp_region ?_
              refine vops_rd (rd_mvI rfl) rfl ?_
              refine vops_rd (rd_asI rfl) rfl ?_
              refine vops_nil ?_
              obtain rfl := Option.some.inj hF
              refine onlyE ?_
              exact weak_sub ⟨rfl, rfl, rfl, rfl, rfl, rfl, trivial⟩
            · have hF := bifF c10 hF
              refine vwp_skip ?_
              obtain rfl := Option.some.inj hF
              refine onlyE ?_
              exact weak_sub ⟨rfl, rfl, rfl, rfl, rfl, rfl, trivial⟩
          · rintro _ _ _ _ ⟨rfl, hw⟩
            refine ⟨_, _, _, hw, ?_⟩
            refine vwp_region ?_
            refine vops_rd (rd_mvI rfl) rfl ?_
            refine vops_rd (rd_sub rfl rfl rfl) rfl ?_
            refine vops_rd (rd_asI rfl) rfl ?_
            refine vops_nil ?_
            obtain rfl := Option.some.inj hF
            refine onlyE ?_
            exact weak_sub ⟨rfl, rfl, rfl, rfl, rfl, rfl, trivial⟩
        · have hF := bifF c6 hF
          refine vwp_exit ?_
          obtain rfl := Option.some.inj hF
          refine onlyE ?_
          exact weak_sub ⟨rfl, rfl, rfl, rfl, rfl, trivial⟩
      · rintro _ _ _ _ ⟨rfl, hw⟩
        refine ⟨_, _, _, hw, ?_⟩
        refine vwp_seq ?_
        refine vwp_seq ?_
        obtain ⟨o11, ho11, hF⟩ := bnd hF
        refine vwp_monoW (Q' := (fun o11 => OnlyE .normal (fun E' lw lc => Weak E' lw lc [(0, .vs 8 (List.map T_Sensor.enc p0)), (2, .int .i64 p2), (4, .ptr (low.length + 0) 0 0 0), (6, .ptr (low.length + 1) 0 0 0), (8, .int .i64 o5), (40, .bool o11)] low [⟨37, 3, [.agg [.int .i64 p1.Address, .int .i64 p1.Kind, .vs 1 (List.map (PV.int .u8) p1.Data)]], 0⟩, ⟨46, 4, [.agg [.int .i64 0, .int .i64 0, .int .i64 0, .int .i64 0]], 0⟩])) o11) ?_ ?_
        · replace hF := ho11
          refine vwp_region ?_
          rcases Bool.eq_false_or_eq_true (decide (o5 < 0)) with c12 | c12
          · have hF := bifT c12 hF
            refine vops_rd (rd_mvI rfl) rfl ?_
            refine vops_rd (rd_lss rfl rfl) rfl ?_
            refine vops_rd (rd_mvB rfl) rfl ?_
            refine vops_skip rfl rfl (neT c12) rfl ?_
            refine vops_skip rfl rfl (neT c12) rfl ?_
            refine vops_skip rfl rfl (neT c12) rfl ?_
            refine vops_skip rfl rfl (neT c12) rfl ?_
            refine vops_skip rfl rfl (neT c12) rfl ?_
            refine vops_skip rfl rfl (neT c12) rfl ?_
            refine vops_rd (rd_pickT (congrArg PV.bool c12) rfl) rfl ?_
            refine vops_nil ?_
            obtain rfl := Option.some.inj hF
            refine onlyE ?_
            exact weak_sub ⟨rfl, rfl, rfl, rfl, rfl, rfl, trivial⟩
          · have hF := bifF c12 hF
            obtain ⟨x13, h14, hF⟩ := bnd hF
            obtain ⟨x15, h16, hF⟩ := bnd hF
            refine vops_rd (rd_mvI rfl) rfl ?_
            refine vops_rd (rd_lss rfl rfl) rfl ?_
            refine vops_rd (rd_mvB rfl) rfl ?_
            refine vops_take rfl (congrArg PV.bool c12) ?_
            refine vops_rd (rd_mvV rfl) rfl ?_
            refine vops_take rfl (congrArg PV.bool c12) ?_
            refine vops_rd (rd_mvI rfl) rfl ?_
            refine vops_take rfl (congrArg PV.bool c12) ?_
            refine vops_rd (rd_to (rd_ixV rfl rfl h14 te_31 ts_24) (v' := .vptr [.int .i64 x13.Address, .int .i64 x13.Kind, .int .i64 x13.Target, .int .i64 x13.Offset, .int .i64 x13.Scale, .int .i64 x13.Error, .int .i64 x13.Drift, .int .i64 x13.Life] 0) rfl) rfl ?_
            refine vops_take rfl (congrArg PV.bool c12) ?_
            refine vops_rd (rd_loadVN (ds := [.int .i64 x13.Address, .int .i64 x13.Kind, .int .i64 x13.Target, .int .i64 x13.Offset, .int .i64 x13.Scale, .int .i64 x13.Error, .int .i64 x13.Drift, .int .i64 x13.Life]) rfl ta_24 ts_24 rfl rfl) rfl ?_
            refine vops_take rfl (congrArg PV.bool c12) ?_
            refine vops_efE (vef_callP rfl Try.call12 (F_ref05_Check_ok h16 _)) rfl ?_
            refine vops_take rfl (congrArg PV.bool c12) ?_
            refine vops_rd (rd_neq rfl rfl) rfl ?_
            refine vops_rd (rd_pickF (congrArg PV.bool c12) rfl) rfl ?_
            refine vops_nil ?_
            obtain rfl := Option.some.inj hF
            refine onlyE ?_
            exact weak_sub ⟨rfl, rfl, rfl, rfl, rfl, rfl, trivial⟩
        · rintro _ _ _ _ ⟨rfl, hw⟩
          refine ⟨_, _, _, hw, ?_⟩
          refine vwp_cond rfl (fun c17 => ?_) (fun c17 => ?_)
          · have hF := bifT c17 hF
            refine vwp_seq ?_
            refine vwp_region ?_
            refine vops_rd (rd_build (vs := []) (ds := [.int .i64 0, .int .i64 0, .int .i64 0, .int .i64 0]) tz_46 rfl rfl tp_46 trivial (nt_all2 rfl) rfl) rfl ?_
            refine vops_efE (vef_store (p := .agg [.int .i64 0, .int .i64 0, .int .i64 0, .int .i64 0]) (e' := .agg [.int .i64 0, .int .i64 0, .int .i64 0, .int .i64 0]) rfl (getO_N rfl rfl) rfl rfl ts_46 rfl (nt_ne rfl) rfl (Nat.le_of_ble_eq_true rfl) rfl (setO_N rfl rfl)) rfl ?_
            refine vops_rd (rd_asI rfl) rfl ?_
            refine vops_nil ?_
            refine vwp_ret ?_
            obtain rfl := Option.some.inj hF
            refine fnR ?_
            exact weak_pick rfl [(1, 0)] (by decide) ⟨rn_ptr 0 1 rfl rfl, rn_low rfl (.int _ _), trivial⟩ ⟨⟨_, rfl, rfl, .same _ _ _ _ (ltObj_es ⟨(lt_agg ⟨.int _ _, .int _ _, .int _ _, .int _ _, trivial⟩), trivial⟩)⟩, trivial⟩
          · have hF := bifF c17 hF
            refine vwp_skip ?_
            refine vwp_seq ?_
            refine vwp_seq ?_
            obtain ⟨o18, ho18, hF⟩ := bnd hF
            refine vwp_monoW (Q' := (fun o18 => OnlyE .normal (fun E' lw lc => Weak E' lw lc [(0, .vs 8 (List.map T_Sensor.enc p0)), (2, .int .i64 p2), (4, .ptr (low.length + 0) 0 0 0), (6, .ptr (low.length + 1) 0 0 0), (8, .int .i64 o5), (49, .bool o18)] low [⟨37, 3, [.agg [.int .i64 p1.Address, .int .i64 p1.Kind, .vs 1 (List.map (PV.int .u8) p1.Data)]], 0⟩, ⟨46, 4, [.agg [.int .i64 0, .int .i64 0, .int .i64 0, .int .i64 0]], 0⟩])) o18) ?_ ?_
            · replace hF := ho18
              refine vwp_region ?_
              rcases Bool.eq_false_or_eq_true (decide (p1.Kind ≠ 1)) with c19 | c19
              · have hF := bifT c19 hF
                refine vops_rd (rd_fieldAddr rfl tf_37_1 ts_3 (by decide)) rfl ?_
                refine vops_rd (rd_load1 rfl (getO_N rfl rfl) rfl ta_3 rfl) rfl ?_
                refine vops_rd (rd_neq rfl rfl) rfl ?_
                refine vops_rd (rd_mvB rfl) rfl ?_
                refine vops_take rfl (congrArg PV.bool c19) ?_
                refine vops_rd (rd_fieldAddr rfl tf_37_1 ts_3 (by decide)) rfl ?_
                refine vops_take rfl (congrArg PV.bool c19) ?_
                refine vops_rd (rd_load1 rfl (getO_N rfl rfl) rfl ta_3 rfl) rfl ?_
                refine vops_take rfl (congrArg PV.bool c19) ?_
                refine vops_rd (rd_neq rfl rfl) rfl ?_
                refine vops_rd (rd_pickT (congrArg PV.bool c19) rfl) rfl ?_
                refine vops_nil ?_
                obtain rfl := Option.some.inj hF
                refine onlyE ?_
                exact weak_sub ⟨rfl, rfl, rfl, rfl, rfl, rfl, trivial⟩
              · have hF := bifF c19 hF
                refine vops_rd (rd_fieldAddr rfl tf_37_1 ts_3 (by decide)) rfl ?_
                refine vops_rd (rd_load1 rfl (getO_N rfl rfl) rfl ta_3 rfl) rfl ?_
                refine vops_rd (rd_neq rfl rfl) rfl ?_
                refine vops_rd (rd_mvB rfl) rfl ?_
                refine vops_skip rfl rfl (neF c19) rfl ?_
                refine vops_skip rfl rfl (neF c19) rfl ?_
                refine vops_skip rfl rfl (neF c19) rfl ?_
                refine vops_rd (rd_pickF (congrArg PV.bool c19) rfl) rfl ?_
                refine vops_nil ?_
                obtain rfl := Option.some.inj hF
                refine onlyE ?_
                exact weak_sub ⟨rfl, rfl, rfl, rfl, rfl, rfl, trivial⟩
            · rintro _ _ _ _ ⟨rfl, hw⟩
              refine ⟨_, _, _, hw, ?_⟩
              refine vwp_cond rfl (fun c20 => ?_) (fun c20 => ?_)
              · have hF := bifT c20 hF
                refine vwp_seq ?_
                refine vwp_region ?_
                refine vops_rd (rd_build (vs := []) (ds := [.int .i64 0, .int .i64 0, .int .i64 0, .int .i64 0]) tz_46 rfl rfl tp_46 trivial (nt_all2 rfl) rfl) rfl ?_
                refine vops_efE (vef_store (p := .agg [.int .i64 0, .int .i64 0, .int .i64 0, .int .i64 0]) (e' := .agg [.int .i64 0, .int .i64 0, .int .i64 0, .int .i64 0]) rfl (getO_N rfl rfl) rfl rfl ts_46 rfl (nt_ne rfl) rfl (Nat.le_of_ble_eq_true rfl) rfl (setO_N rfl rfl)) rfl ?_
                refine vops_rd (rd_asI rfl) rfl ?_
                refine vops_nil ?_
                refine vwp_ret ?_
                obtain rfl := Option.some.inj hF
                refine fnR ?_
                exact weak_pick rfl [(1, 0)] (by decide) ⟨rn_ptr 0 1 rfl rfl, rn_low rfl (.int _ _), trivial⟩ ⟨⟨_, rfl, rfl, .same _ _ _ _ (ltObj_es ⟨(lt_agg ⟨.int _ _, .int _ _, .int _ _, .int _ _, trivial⟩), trivial⟩)⟩, trivial⟩
              · have hF := bifF c20 hF
                refine vwp_skip ?_
                refine vwp_seq ?_
                refine vwp_seq ?_
                obtain ⟨o21, ho21, hF⟩ := bnd hF
                refine vwp_monoW (Q' := (fun o21 => OnlyE .normal (fun E' lw lc => Weak E' lw lc [(0, .vs 8 (List.map T_Sensor.enc p0)), (2, .int .i64 p2), (4, .ptr (low.length + 0) 0 0 0), (6, .ptr (low.length + 1) 0 0 0), (8, .int .i64 o5), (70, .bool o21)] low [⟨37, 3, [.agg [.int .i64 p1.Address, .int .i64 p1.Kind, .vs 1 (List.map (PV.int .u8) p1.Data)]], 0⟩, ⟨46, 4, [.agg [.int .i64 0, .int .i64 0, .int .i64 0, .int .i64 0]], 0⟩])) o21) ?_ ?_
                · replace hF := ho21
                  refine vwp_region ?_
                  rcases Bool.eq_false_or_eq_true (decide (p1.Kind = 1)) with c22 | c22
                  · have hF := bifT c22 hF
                    rcases Bool.eq_false_or_eq_true (decide (((p1.Data).length : Int) ≠ 2)) with c23 | c23
                    · have hF := bifT c23 hF
                      refine vops_rd (rd_fieldAddr rfl tf_37_1 ts_3 (by decide)) rfl ?_
                      refine vops_rd (rd_load1 rfl (getO_N rfl rfl) rfl ta_3 rfl) rfl ?_
                      refine vops_rd (rd_eql rfl rfl) rfl ?_
                      refine vops_rd (rd_mvB rfl) rfl ?_
                      refine vops_take rfl (congrArg PV.bool c22) ?_
                      refine vops_rd (rd_fieldAddr rfl tf_37_2 ts_22 (by decide)) rfl ?_
                      refine vops_take rfl (congrArg PV.bool c22) ?_
                      refine vops_rd (rd_load1 rfl (getO_N rfl rfl) rfl ta_22 rfl) rfl ?_
                      refine vops_take rfl (congrArg PV.bool c22) ?_
                      refine vops_rd (rd_to (rd_lenV rfl rfl te_22) (congrArg (fun n : Nat => PV.int .i64 (n : Int)) (List.length_map _))) rfl ?_
                      refine vops_take rfl (congrArg PV.bool c22) ?_
                      refine vops_rd (rd_neq rfl rfl) rfl ?_
                      refine vops_rd (rd_pickT (congrArg PV.bool c22) rfl) rfl ?_
                      refine vops_rd (rd_mvB rfl) rfl ?_
                      refine vops_skip rfl rfl (neT c23) rfl ?_
                      refine vops_skip rfl rfl (neT c23) rfl ?_
                      refine vops_skip rfl rfl (neT c23) rfl ?_
                      refine vops_skip rfl rfl (neT c23) rfl ?_
                      refine vops_skipX rfl rfl rfl ?_
                      refine vops_skipX rfl rfl rfl ?_
                      refine vops_skipX rfl rfl rfl ?_
                      refine vops_skipX rfl rfl rfl ?_
                      refine vops_skip rfl rfl (neT c23) rfl ?_
                      refine vops_rd (rd_pickT (congrArg PV.bool c23) rfl) rfl ?_
                      refine vops_nil ?_
                      obtain rfl := Option.some.inj hF
                      refine onlyE ?_
                      exact weak_sub ⟨rfl, rfl, rfl, rfl, rfl, rfl, trivial⟩
                    · have hF := bifF c23 hF
                      rcases Bool.eq_false_or_eq_true (decide (p1.Kind = 2)) with c24 | c24
                      · have hF := bifT c24 hF
                        refine vops_rd (rd_fieldAddr rfl tf_37_1 ts_3 (by decide)) rfl ?_
                        refine vops_rd (rd_load1 rfl (getO_N rfl rfl) rfl ta_3 rfl) rfl ?_
                        refine vops_rd (rd_eql rfl rfl) rfl ?_
                        refine vops_rd (rd_mvB rfl) rfl ?_
                        refine vops_take rfl (congrArg PV.bool c22) ?_
                        refine vops_rd (rd_fieldAddr rfl tf_37_2 ts_22 (by decide)) rfl ?_
                        refine vops_take rfl (congrArg PV.bool c22) ?_
                        refine vops_rd (rd_load1 rfl (getO_N rfl rfl) rfl ta_22 rfl) rfl ?_
                        refine vops_take rfl (congrArg PV.bool c22) ?_
                        refine vops_rd (rd_to (rd_lenV rfl rfl te_22) (congrArg (fun n : Nat => PV.int .i64 (n : Int)) (List.length_map _))) rfl ?_
                        refine vops_take rfl (congrArg PV.bool c22) ?_
                        refine vops_rd (rd_neq rfl rfl) rfl ?_
                        refine vops_rd (rd_pickT (congrArg PV.bool c22) rfl) rfl ?_
                        refine vops_rd (rd_mvB rfl) rfl ?_
                        refine vops_take rfl (congrArg PV.bool c23) ?_
                        refine vops_rd (rd_fieldAddr rfl tf_37_1 ts_3 (by decide)) rfl ?_
                        refine vops_take rfl (congrArg PV.bool c23) ?_
                        refine vops_rd (rd_load1 rfl (getO_N rfl rfl) rfl ta_3 rfl) rfl ?_
                        refine vops_take rfl (congrArg PV.bool c23) ?_
                        refine vops_rd (rd_eql rfl rfl) rfl ?_
                        refine vops_take rfl (congrArg PV.bool c23) ?_
                        refine vops_rd (rd_mvB rfl) rfl ?_
                        refine vops_take rfl (congrArg PV.bool c24) ?_
                        refine vops_rd (rd_fieldAddr rfl tf_37_2 ts_22 (by decide)) rfl ?_
                        refine vops_take rfl (congrArg PV.bool c24) ?_
                        refine vops_rd (rd_load1 rfl (getO_N rfl rfl) rfl ta_22 rfl) rfl ?_
                        refine vops_take rfl (congrArg PV.bool c24) ?_
                        refine vops_rd (rd_to (rd_lenV rfl rfl te_22) (congrArg (fun n : Nat => PV.int .i64 (n : Int)) (List.length_map _))) rfl ?_
                        refine vops_take rfl (congrArg PV.bool c24) ?_
                        refine vops_rd (rd_neq rfl rfl) rfl ?_
                        refine vops_take rfl (congrArg PV.bool c23) ?_
                        refine vops_rd (rd_pickT (congrArg PV.bool c24) rfl) rfl ?_
                        refine vops_rd (rd_pickF (congrArg PV.bool c23) rfl) rfl ?_
                        refine vops_nil ?_
                        obtain rfl := Option.some.inj hF
                        refine onlyE ?_
                        exact weak_sub ⟨rfl, rfl, rfl, rfl, rfl, rfl, trivial⟩
                      · have hF := bifF c24 hF
                        refine vops_rd (rd_fieldAddr rfl tf_37_1 ts_3 (by decide)) rfl ?_
                        refine vops_rd (rd_load1 rfl (getO_N rfl rfl) rfl ta_3 rfl) rfl ?_
                        refine vops_rd (rd_eql rfl rfl) rfl ?_
                        refine vops_rd (rd_mvB rfl) rfl ?_
                        refine vops_take rfl (congrArg PV.bool c22) ?_
                        refine vops_rd (rd_fieldAddr rfl tf_37_2 ts_22 (by decide)) rfl ?_
                        refine vops_take rfl (congrArg PV.bool c22) ?_
                        refine vops_rd (rd_load1 rfl (getO_N rfl rfl) rfl ta_22 rfl) rfl ?_
                        refine vops_take rfl (congrArg PV.bool c22) ?_
                        refine vops_rd (rd_to (rd_lenV rfl rfl te_22) (congrArg (fun n : Nat => PV.int .i64 (n : Int)) (List.length_map _))) rfl ?_
                        refine vops_take rfl (congrArg PV.bool c22) ?_
                        refine vops_rd (rd_neq rfl rfl) rfl ?_
                        refine vops_rd (rd_pickT (congrArg PV.bool c22) rfl) rfl ?_
                        refine vops_rd (rd_mvB rfl) rfl ?_
                        refine vops_take rfl (congrArg PV.bool c23) ?_
                        refine vops_rd (rd_fieldAddr rfl tf_37_1 ts_3 (by decide)) rfl ?_
                        refine vops_take rfl (congrArg PV.bool c23) ?_
                        refine vops_rd (rd_load1 rfl (getO_N rfl rfl) rfl ta_3 rfl) rfl ?_
                        refine vops_take rfl (congrArg PV.bool c23) ?_
                        refine vops_rd (rd_eql rfl rfl) rfl ?_
                        refine vops_take rfl (congrArg PV.bool c23) ?_
                        refine vops_rd (rd_mvB rfl) rfl ?_
                        refine vops_skip rfl rfl (neF c24) rfl ?_
                        refine vops_skip rfl rfl (neF c24) rfl ?_
                        refine vops_skip rfl rfl (neF c24) rfl ?_
                        refine vops_skip rfl rfl (neF c24) rfl ?_
                        refine vops_take rfl (congrArg PV.bool c23) ?_
                        refine vops_rd (rd_pickF (congrArg PV.bool c24) rfl) rfl ?_
                        refine vops_rd (rd_pickF (congrArg PV.bool c23) rfl) rfl ?_
                        refine vops_nil ?_
                        obtain rfl := Option.some.inj hF
                        refine onlyE ?_
                        exact weak_sub ⟨rfl, rfl, rfl, rfl, rfl, rfl, trivial⟩
                  · have hF := bifF c22 hF
                    rcases Bool.eq_false_or_eq_true (decide (p1.Kind = 2)) with c25 | c25
                    · have hF := bifT c25 hF
                      refine vops_rd (rd_fieldAddr rfl tf_37_1 ts_3 (by decide)) rfl ?_
                      refine vops_rd (rd_load1 rfl (getO_N rfl rfl) rfl ta_3 rfl) rfl ?_
                      refine vops_rd (rd_eql rfl rfl) rfl ?_
                      refine vops_rd (rd_mvB rfl) rfl ?_
                      refine vops_skip rfl rfl (neF c22) rfl ?_
                      refine vops_skip rfl rfl (neF c22) rfl ?_
                      refine vops_skip rfl rfl (neF c22) rfl ?_
                      refine vops_skip rfl rfl (neF c22) rfl ?_
                      refine vops_rd (rd_pickF (congrArg PV.bool c22) rfl) rfl ?_
                      refine vops_rd (rd_mvB rfl) rfl ?_
                      refine vops_take rfl rfl ?_
                      refine vops_rd (rd_fieldAddr rfl tf_37_1 ts_3 (by decide)) rfl ?_
                      refine vops_take rfl rfl ?_
                      refine vops_rd (rd_load1 rfl (getO_N rfl rfl) rfl ta_3 rfl) rfl ?_
                      refine vops_take rfl rfl ?_
                      refine vops_rd (rd_eql rfl rfl) rfl ?_
                      refine vops_take rfl rfl ?_
                      refine vops_rd (rd_mvB rfl) rfl ?_
                      refine vops_take rfl (congrArg PV.bool c25) ?_
                      refine vops_rd (rd_fieldAddr rfl tf_37_2 ts_22 (by decide)) rfl ?_
                      refine vops_take rfl (congrArg PV.bool c25) ?_
                      refine vops_rd (rd_load1 rfl (getO_N rfl rfl) rfl ta_22 rfl) rfl ?_
                      refine vops_take rfl (congrArg PV.bool c25) ?_
                      refine vops_rd (rd_to (rd_lenV rfl rfl te_22) (congrArg (fun n : Nat => PV.int .i64 (n : Int)) (List.length_map _))) rfl ?_
                      refine vops_take rfl (congrArg PV.bool c25) ?_
                      refine vops_rd (rd_neq rfl rfl) rfl ?_
                      refine vops_take rfl rfl ?_
                      refine vops_rd (rd_pickT (congrArg PV.bool c25) rfl) rfl ?_
                      refine vops_rd (rd_pickF rfl rfl) rfl ?_
                      refine vops_nil ?_
                      obtain rfl := Option.some.inj hF
                      refine onlyE ?_
                      exact weak_sub ⟨rfl, rfl, rfl, rfl, rfl, rfl, trivial⟩
                    · have hF := bifF c25 hF
                      refine vops_rd (rd_fieldAddr rfl tf_37_1 ts_3 (by decide)) rfl ?_
                      refine vops_rd (rd_load1 rfl (getO_N rfl rfl) rfl ta_3 rfl) rfl ?_
                      refine vops_rd (rd_eql rfl rfl) rfl ?_
                      refine vops_rd (rd_mvB rfl) rfl ?_
                      refine vops_skip rfl rfl (neF c22) rfl ?_
                      refine vops_skip rfl rfl (neF c22) rfl ?_
                      refine vops_skip rfl rfl (neF c22) rfl ?_
                      refine vops_skip rfl rfl (neF c22) rfl ?_
                      refine vops_rd (rd_pickF (congrArg PV.bool c22) rfl) rfl ?_
                      refine vops_rd (rd_mvB rfl) rfl ?_
                      refine vops_take rfl rfl ?_
                      refine vops_rd (rd_fieldAddr rfl tf_37_1 ts_3 (by decide)) rfl ?_
                      refine vops_take rfl rfl ?_
                      refine vops_rd (rd_load1 rfl (getO_N rfl rfl) rfl ta_3 rfl) rfl ?_
                      refine vops_take rfl rfl ?_
                      refine vops_rd (rd_eql rfl rfl) rfl ?_
                      refine vops_take rfl rfl ?_
                      refine vops_rd (rd_mvB rfl) rfl ?_
                      refine vops_skip rfl rfl (neF c25) rfl ?_
                      refine vops_skip rfl rfl (neF c25) rfl ?_
                      refine vops_skip rfl rfl (neF c25) rfl ?_
                      refine vops_skip rfl rfl (neF c25) rfl ?_
                      refine vops_take rfl rfl ?_
                      refine vops_rd (rd_pickF (congrArg PV.bool c25) rfl) rfl ?_
                      refine vops_rd (rd_pickF rfl rfl) rfl ?_
                      refine vops_nil ?_
                      obtain rfl := Option.some.inj hF
                      refine onlyE ?_
                      exact weak_sub ⟨rfl, rfl, rfl, rfl, rfl, rfl, trivial⟩
                · rintro _ _ _ _ ⟨rfl, hw⟩
                  refine ⟨_, _, _, hw, ?_⟩
                  refine vwp_cond rfl (fun c26 => ?_) (fun c26 => ?_)
                  · have hF := bifT c26 hF
                    refine vwp_seq ?_
                    refine vwp_region ?_
                    refine vops_rd (rd_build (vs := []) (ds := [.int .i64 0, .int .i64 0, .int .i64 0, .int .i64 0]) tz_46 rfl rfl tp_46 trivial (nt_all2 rfl) rfl) rfl ?_
                    refine vops_efE (vef_store (p := .agg [.int .i64 0, .int .i64 0, .int .i64 0, .int .i64 0]) (e' := .agg [.int .i64 0, .int .i64 0, .int .i64 0, .int .i64 0]) rfl (getO_N rfl rfl) rfl rfl ts_46 rfl (nt_ne rfl) rfl (Nat.le_of_ble_eq_true rfl) rfl (setO_N rfl rfl)) rfl ?_
                    refine vops_rd (rd_asI rfl) rfl ?_
                    refine vops_nil ?_
                    refine vwp_ret ?_
                    obtain rfl := Option.some.inj hF
                    refine fnR ?_
                    exact weak_pick rfl [(1, 0)] (by decide) ⟨rn_ptr 0 1 rfl rfl, rn_low rfl (.int _ _), trivial⟩ ⟨⟨_, rfl, rfl, .same _ _ _ _ (ltObj_es ⟨(lt_agg ⟨.int _ _, .int _ _, .int _ _, .int _ _, trivial⟩), trivial⟩)⟩, trivial⟩
                  · have hF := bifF c26 hF
                    refine vwp_skip ?_
                    refine vwp_seq ?_
                    refine vwp_region ?_
                    obtain ⟨x27, h28, hF⟩ := bnd hF
                    refine vops_rd (rd_mvI rfl) rfl ?_
                    refine vops_rd (rd_mvI rfl) rfl ?_
                    refine vops_efE (vef_callP rfl Try.call30 (F_ref05_Nothing_ok h28 _)) rfl ?_
                    refine vops_rd (rd_build (vs := [(0, .int .i64 o5), (1, .int .i64 p2), (2, .agg [.int .i64 x27.Low, .int .i64 x27.High])]) (ds := [.int .i64 o5, .int .i64 p2, .int .i64 x27.Low, .int .i64 x27.High]) tz_46 rfl rfl tp_46 ⟨rfl, rfl, rfl, rfl, rfl, rfl, trivial⟩ (nt_all2 rfl) rfl) rfl ?_
                    refine vops_efE (vef_allocN rfl rfl tz_46 rfl rfl (Nat.succ_pos _) rfl) rfl ?_
                    refine vops_efE (vef_store (p := .agg [.int .i64 o5, .int .i64 p2, .int .i64 x27.Low, .int .i64 x27.High]) (e' := .agg [.int .i64 o5, .int .i64 p2, .int .i64 x27.Low, .int .i64 x27.High]) rfl (getO_N rfl rfl) rfl rfl ts_46 rfl (nt_ne rfl) rfl (Nat.le_of_ble_eq_true rfl) rfl (setO_N rfl rfl)) rfl ?_
                    refine vops_nil ?_
                    refine vwp_seq ?_
                    refine vwp_seq ?_
                    refine vwp_region ?_
                    refine vops_rd (rd_fieldAddr rfl tf_37_1 ts_3 (by decide)) rfl ?_
                    refine vops_rd (rd_load1 rfl (getO_N rfl rfl) rfl ta_3 rfl) rfl ?_
                    refine vops_rd (rd_eql rfl rfl) rfl ?_
                    refine vops_nil ?_
                    obtain ⟨o29, ho29, hF⟩ := bnd hF
                    refine vwp_monoW (Q' := (fun o29 => OnlyE .normal (fun E' lw lc => Weak E' lw lc [(6, .ptr (low.length + 0) 0 0 0), (10, .ptr (low.length + 1) 0 0 0)] low [⟨46, 4, [.agg [.int .i64 0, .int .i64 0, .int .i64 0, .int .i64 0]], 0⟩, ⟨46, 4, [.agg [.int .i64 o29.Sensor, .int .i64 o29.Time, .int .i64 o29.Span.Low, .int .i64 o29.Span.High]], 0⟩])) o29) ?_ ?_
                    · replace hF := ho29
                      refine vwp_cond rfl (fun c30 => ?_) (fun c30 => ?_)
                      · have hF := bifT c30 hF
                        obtain ⟨x31, h32, hF⟩ := bnd hF
                        obtain ⟨x33, h34, hF⟩ := bnd hF
                        obtain ⟨x35, h36, hF⟩ := bnd hF
                        obtain ⟨x37, h38, hF⟩ := bnd hF
                        refine vwp_drawn [[], [], [0, 1], [0, 1, 2], [], [4], [4, 5], [4, 5, 6], [4, 5, 6, 7], [4, 5, 6, 7, 8], [], [10], [10, 11], [10, 11, 12], [10, 11, 12, 13], [4, 5, 6, 7, 8, 9, 10, 11, 12, 13, 14], [0, 1, 2, 3, 4, 5, 6, 7, 8, 9, 10, 11, 12, 13, 14, 15], [0, 1, 2, 3, 4, 5, 6, 7, 8, 9, 10, 11, 12, 13, 14, 15, 16], [0, 1, 2, 3, 4, 5, 6, 7, 8, 9, 10, 11, 12, 13, 14, 15, 16, 17]] [false, false, false, false, false, false, false, false, false, false, false, false, false, false, false, false, false, false, true] [(low, [⟨37, 3, [.agg [.int .i64 p1.Address, .int .i64 p1.Kind, .vs 1 (List.map (PV.int .u8) p1.Data)]], 0⟩, ⟨46, 4, [.agg [.int .i64 0, .int .i64 0, .int .i64 0, .int .i64 0]], 0⟩, ⟨46, 4, [.agg [.int .i64 o5, .int .i64 p2, .int .i64 x27.Low, .int .i64 x27.High]], 0⟩]), (low, [⟨37, 3, [.agg [.int .i64 p1.Address, .int .i64 p1.Kind, .vs 1 (List.map (PV.int .u8) p1.Data)]], 0⟩, ⟨46, 4, [.agg [.int .i64 0, .int .i64 0, .int .i64 0, .int .i64 0]], 0⟩, ⟨46, 4, [.agg [.int .i64 o5, .int .i64 p2, .int .i64 x37.Low, .int .i64 x37.High]], 0⟩])] mixed (by kernel_rfl) rfl (lenAll (all1 rfl (all1 rfl all0))) rfl (low, [⟨37, 3, [.agg [.int .i64 p1.Address, .int .i64 p1.Kind, .vs 1 (List.map (PV.int .u8) p1.Data)]], 0⟩, ⟨46, 4, [.agg [.int .i64 0, .int .i64 0, .int .i64 0, .int .i64 0]], 0⟩, ⟨46, 4, [.agg [.int .i64 o5, .int .i64 p2, .int .i64 x37.Low, .int .i64 x37.High]], 0⟩]) rfl rfl ?_
                        refine dops_rdW [(low, [⟨37, 3, [.agg [.int .i64 p1.Address, .int .i64 p1.Kind, .vs 1 (List.map (PV.int .u8) p1.Data)]], 0⟩, ⟨46, 4, [.agg [.int .i64 0, .int .i64 0, .int .i64 0, .int .i64 0]], 0⟩, ⟨46, 4, [.agg [.int .i64 o5, .int .i64 p2, .int .i64 x27.Low, .int .i64 x27.High]], 0⟩])] rfl rfl (all1 (VRd.ntl (rd_mvV rfl)) all0) ?_
                        refine dops_rdW [(low, [⟨37, 3, [.agg [.int .i64 p1.Address, .int .i64 p1.Kind, .vs 1 (List.map (PV.int .u8) p1.Data)]], 0⟩, ⟨46, 4, [.agg [.int .i64 0, .int .i64 0, .int .i64 0, .int .i64 0]], 0⟩, ⟨46, 4, [.agg [.int .i64 o5, .int .i64 p2, .int .i64 x27.Low, .int .i64 x27.High]], 0⟩])] rfl rfl (all1 (VRd.ntl (rd_mvI rfl)) all0) ?_
                        refine dops_rdW [(low, [⟨37, 3, [.agg [.int .i64 p1.Address, .int .i64 p1.Kind, .vs 1 (List.map (PV.int .u8) p1.Data)]], 0⟩, ⟨46, 4, [.agg [.int .i64 0, .int .i64 0, .int .i64 0, .int .i64 0]], 0⟩, ⟨46, 4, [.agg [.int .i64 o5, .int .i64 p2, .int .i64 x27.Low, .int .i64 x27.High]], 0⟩])] rfl rfl (all1 (VRd.ntl (rd_to (rd_ixV rfl rfl h32 te_31 ts_24) (v' := .vptr [.int .i64 x31.Address, .int .i64 x31.Kind, .int .i64 x31.Target, .int .i64 x31.Offset, .int .i64 x31.Scale, .int .i64 x31.Error, .int .i64 x31.Drift, .int .i64 x31.Life] 0) rfl)) all0) ?_
                        refine dops_rdW [(low, [⟨37, 3, [.agg [.int .i64 p1.Address, .int .i64 p1.Kind, .vs 1 (List.map (PV.int .u8) p1.Data)]], 0⟩, ⟨46, 4, [.agg [.int .i64 0, .int .i64 0, .int .i64 0, .int .i64 0]], 0⟩, ⟨46, 4, [.agg [.int .i64 o5, .int .i64 p2, .int .i64 x27.Low, .int .i64 x27.High]], 0⟩])] rfl rfl (all1 (VRd.ntl (rd_loadVN (ds := [.int .i64 x31.Address, .int .i64 x31.Kind, .int .i64 x31.Target, .int .i64 x31.Offset, .int .i64 x31.Scale, .int .i64 x31.Error, .int .i64 x31.Drift, .int .i64 x31.Life]) rfl ta_24 ts_24 rfl rfl)) all0) ?_
                        refine dops_rdW [(low, [⟨37, 3, [.agg [.int .i64 p1.Address, .int .i64 p1.Kind, .vs 1 (List.map (PV.int .u8) p1.Data)]], 0⟩, ⟨46, 4, [.agg [.int .i64 0, .int .i64 0, .int .i64 0, .int .i64 0]], 0⟩, ⟨46, 4, [.agg [.int .i64 o5, .int .i64 p2, .int .i64 x27.Low, .int .i64 x27.High]], 0⟩])] rfl rfl (all1 (VRd.ntl (rd_fieldAddr rfl tf_37_2 ts_22 (by decide))) all0) ?_
                        refine dops_rdW [(low, [⟨37, 3, [.agg [.int .i64 p1.Address, .int .i64 p1.Kind, .vs 1 (List.map (PV.int .u8) p1.Data)]], 0⟩, ⟨46, 4, [.agg [.int .i64 0, .int .i64 0, .int .i64 0, .int .i64 0]], 0⟩, ⟨46, 4, [.agg [.int .i64 o5, .int .i64 p2, .int .i64 x27.Low, .int .i64 x27.High]], 0⟩])] rfl rfl (all1 (VRd.ntl (rd_load1 rfl (getO_N rfl rfl) rfl ta_22 rfl)) all0) ?_
                        refine dops_rdW [(low, [⟨37, 3, [.agg [.int .i64 p1.Address, .int .i64 p1.Kind, .vs 1 (List.map (PV.int .u8) p1.Data)]], 0⟩, ⟨46, 4, [.agg [.int .i64 0, .int .i64 0, .int .i64 0, .int .i64 0]], 0⟩, ⟨46, 4, [.agg [.int .i64 o5, .int .i64 p2, .int .i64 x27.Low, .int .i64 x27.High]], 0⟩])] rfl rfl (all1 (VRd.ntl (rd_to (rd_ixV rfl rfl h34 te_22 ts_5) (v' := .vptr [.int .u8 x33] 0) rfl)) all0) ?_
                        refine dops_rdW [(low, [⟨37, 3, [.agg [.int .i64 p1.Address, .int .i64 p1.Kind, .vs 1 (List.map (PV.int .u8) p1.Data)]], 0⟩, ⟨46, 4, [.agg [.int .i64 0, .int .i64 0, .int .i64 0, .int .i64 0]], 0⟩, ⟨46, 4, [.agg [.int .i64 o5, .int .i64 p2, .int .i64 x27.Low, .int .i64 x27.High]], 0⟩])] rfl rfl (all1 (VRd.ntl (rd_loadV1 rfl ta_5 rfl)) all0) ?_
                        refine dops_rdW [(low, [⟨37, 3, [.agg [.int .i64 p1.Address, .int .i64 p1.Kind, .vs 1 (List.map (PV.int .u8) p1.Data)]], 0⟩, ⟨46, 4, [.agg [.int .i64 0, .int .i64 0, .int .i64 0, .int .i64 0]], 0⟩, ⟨46, 4, [.agg [.int .i64 o5, .int .i64 p2, .int .i64 x27.Low, .int .i64 x27.High]], 0⟩])] rfl rfl (all1 (VRd.ntl (rd_conv rfl us_5 ti_3 rfl)) all0) ?_
                        refine dops_rdW [(low, [⟨37, 3, [.agg [.int .i64 p1.Address, .int .i64 p1.Kind, .vs 1 (List.map (PV.int .u8) p1.Data)]], 0⟩, ⟨46, 4, [.agg [.int .i64 0, .int .i64 0, .int .i64 0, .int .i64 0]], 0⟩, ⟨46, 4, [.agg [.int .i64 o5, .int .i64 p2, .int .i64 x27.Low, .int .i64 x27.High]], 0⟩])] rfl rfl (all1 (VRd.ntl (rd_shlC (c := 256) rfl rfl (by decide) rfl rfl)) all0) ?_
                        refine dops_rdW [(low, [⟨37, 3, [.agg [.int .i64 p1.Address, .int .i64 p1.Kind, .vs 1 (List.map (PV.int .u8) p1.Data)]], 0⟩, ⟨46, 4, [.agg [.int .i64 0, .int .i64 0, .int .i64 0, .int .i64 0]], 0⟩, ⟨46, 4, [.agg [.int .i64 o5, .int .i64 p2, .int .i64 x27.Low, .int .i64 x27.High]], 0⟩])] rfl rfl (all1 (VRd.ntl (rd_fieldAddr rfl tf_37_2 ts_22 (by decide))) all0) ?_
                        refine dops_rdW [(low, [⟨37, 3, [.agg [.int .i64 p1.Address, .int .i64 p1.Kind, .vs 1 (List.map (PV.int .u8) p1.Data)]], 0⟩, ⟨46, 4, [.agg [.int .i64 0, .int .i64 0, .int .i64 0, .int .i64 0]], 0⟩, ⟨46, 4, [.agg [.int .i64 o5, .int .i64 p2, .int .i64 x27.Low, .int .i64 x27.High]], 0⟩])] rfl rfl (all1 (VRd.ntl (rd_load1 rfl (getO_N rfl rfl) rfl ta_22 rfl)) all0) ?_
                        refine dops_rdW [(low, [⟨37, 3, [.agg [.int .i64 p1.Address, .int .i64 p1.Kind, .vs 1 (List.map (PV.int .u8) p1.Data)]], 0⟩, ⟨46, 4, [.agg [.int .i64 0, .int .i64 0, .int .i64 0, .int .i64 0]], 0⟩, ⟨46, 4, [.agg [.int .i64 o5, .int .i64 p2, .int .i64 x27.Low, .int .i64 x27.High]], 0⟩])] rfl rfl (all1 (VRd.ntl (rd_to (rd_ixV rfl rfl h36 te_22 ts_5) (v' := .vptr [.int .u8 x35] 0) rfl)) all0) ?_
                        refine dops_rdW [(low, [⟨37, 3, [.agg [.int .i64 p1.Address, .int .i64 p1.Kind, .vs 1 (List.map (PV.int .u8) p1.Data)]], 0⟩, ⟨46, 4, [.agg [.int .i64 0, .int .i64 0, .int .i64 0, .int .i64 0]], 0⟩, ⟨46, 4, [.agg [.int .i64 o5, .int .i64 p2, .int .i64 x27.Low, .int .i64 x27.High]], 0⟩])] rfl rfl (all1 (VRd.ntl (rd_loadV1 rfl ta_5 rfl)) all0) ?_
                        refine dops_rdW [(low, [⟨37, 3, [.agg [.int .i64 p1.Address, .int .i64 p1.Kind, .vs 1 (List.map (PV.int .u8) p1.Data)]], 0⟩, ⟨46, 4, [.agg [.int .i64 0, .int .i64 0, .int .i64 0, .int .i64 0]], 0⟩, ⟨46, 4, [.agg [.int .i64 o5, .int .i64 p2, .int .i64 x27.Low, .int .i64 x27.High]], 0⟩])] rfl rfl (all1 (VRd.ntl (rd_conv rfl us_5 ti_3 rfl)) all0) ?_
                        refine dops_rdW [(low, [⟨37, 3, [.agg [.int .i64 p1.Address, .int .i64 p1.Kind, .vs 1 (List.map (PV.int .u8) p1.Data)]], 0⟩, ⟨46, 4, [.agg [.int .i64 0, .int .i64 0, .int .i64 0, .int .i64 0]], 0⟩, ⟨46, 4, [.agg [.int .i64 o5, .int .i64 p2, .int .i64 x27.Low, .int .i64 x27.High]], 0⟩])] rfl rfl (all1 (VRd.ntl (rd_or rfl rfl rfl)) all0) ?_
                        refine dops_rdW [(low, [⟨37, 3, [.agg [.int .i64 p1.Address, .int .i64 p1.Kind, .vs 1 (List.map (PV.int .u8) p1.Data)]], 0⟩, ⟨46, 4, [.agg [.int .i64 0, .int .i64 0, .int .i64 0, .int .i64 0]], 0⟩, ⟨46, 4, [.agg [.int .i64 o5, .int .i64 p2, .int .i64 x27.Low, .int .i64 x27.High]], 0⟩])] rfl rfl (all1 (nt_of (vef_callP rfl Try.call16 (F_ref05_Value_ok h38 _))) all0) ?_
                        refine dops_rdW [(low, [⟨37, 3, [.agg [.int .i64 p1.Address, .int .i64 p1.Kind, .vs 1 (List.map (PV.int .u8) p1.Data)]], 0⟩, ⟨46, 4, [.agg [.int .i64 0, .int .i64 0, .int .i64 0, .int .i64 0]], 0⟩, ⟨46, 4, [.agg [.int .i64 o5, .int .i64 p2, .int .i64 x27.Low, .int .i64 x27.High]], 0⟩])] rfl rfl (all1 (VRd.ntl (rd_fieldAddr rfl tf_46_2 ts_33 (by decide))) all0) ?_
                        refine dops_ef (M := (low, [⟨37, 3, [.agg [.int .i64 p1.Address, .int .i64 p1.Kind, .vs 1 (List.map (PV.int .u8) p1.Data)]], 0⟩, ⟨46, 4, [.agg [.int .i64 0, .int .i64 0, .int .i64 0, .int .i64 0]], 0⟩, ⟨46, 4, [.agg [.int .i64 o5, .int .i64 p2, .int .i64 x27.Low, .int .i64 x27.High]], 0⟩])) (M' := (low, [⟨37, 3, [.agg [.int .i64 p1.Address, .int .i64 p1.Kind, .vs 1 (List.map (PV.int .u8) p1.Data)]], 0⟩, ⟨46, 4, [.agg [.int .i64 0, .int .i64 0, .int .i64 0, .int .i64 0]], 0⟩, ⟨46, 4, [.agg [.int .i64 o5, .int .i64 p2, .int .i64 x37.Low, .int .i64 x37.High]], 0⟩])) rfl rfl rfl (vef_store (p := .agg [.int .i64 x37.Low, .int .i64 x37.High]) (e' := .agg [.int .i64 o5, .int .i64 p2, .int .i64 x37.Low, .int .i64 x37.High]) rfl (getO_N rfl rfl) rfl rfl ts_33 rfl (nt_ne rfl) rfl (Nat.le_of_ble_eq_true rfl) rfl (setO_N rfl rfl)) ?_
                        refine dops_nil ?_
                        obtain rfl := Option.some.inj hF
                        refine onlyE ?_
                        exact weak_pick rfl [(1, 0), (2, 0)] (by decide) ⟨rn_ptr 0 1 rfl rfl, rn_ptr 1 2 rfl rfl, trivial⟩ ⟨⟨_, rfl, rfl, .same _ _ _ _ (ltObj_es ⟨(lt_agg ⟨.int _ _, .int _ _, .int _ _, .int _ _, trivial⟩), trivial⟩)⟩, ⟨_, rfl, rfl, .same _ _ _ _ (ltObj_es ⟨(lt_agg ⟨.int _ _, .int _ _, .int _ _, .int _ _, trivial⟩), trivial⟩)⟩, trivial⟩
                      · have hF := bifF c30 hF
                        refine vwp_skip ?_
                        obtain rfl := Option.some.inj hF
                        refine onlyE ?_
                        exact weak_pick rfl [(1, 0), (2, 0)] (by decide) ⟨rn_ptr 0 1 rfl rfl, rn_ptr 1 2 rfl rfl, trivial⟩ ⟨⟨_, rfl, rfl, .same _ _ _ _ (ltObj_es ⟨(lt_agg ⟨.int _ _, .int _ _, .int _ _, .int _ _, trivial⟩), trivial⟩)⟩, ⟨_, rfl, rfl, .same _ _ _ _ (ltObj_es ⟨(lt_agg ⟨.int _ _, .int _ _, .int _ _, .int _ _, trivial⟩), trivial⟩)⟩, trivial⟩
                    · rintro _ _ _ _ ⟨rfl, hw⟩
                      refine ⟨_, _, _, hw, ?_⟩
                      refine vwp_seq ?_
                      refine vwp_region ?_
                      refine vops_rd (rd_loadN (ds := [.int .i64 o29.Sensor, .int .i64 o29.Time, .int .i64 o29.Span.Low, .int .i64 o29.Span.High]) rfl (getO_N rfl rfl) rfl ta_46 ts_46 rfl rfl rfl) rfl ?_
                      refine vops_efE (vef_store (p := .agg [.int .i64 o29.Sensor, .int .i64 o29.Time, .int .i64 o29.Span.Low, .int .i64 o29.Span.High]) (e' := .agg [.int .i64 o29.Sensor, .int .i64 o29.Time, .int .i64 o29.Span.Low, .int .i64 o29.Span.High]) rfl (getO_N rfl rfl) rfl rfl ts_46 rfl (nt_ne rfl) rfl (Nat.le_of_ble_eq_true rfl) rfl (setO_N rfl rfl)) rfl ?_
                      refine vops_rd (rd_asI rfl) rfl ?_
                      refine vops_nil ?_
                      refine vwp_ret ?_
                      obtain rfl := Option.some.inj hF
                      refine fnR ?_
                      exact weak_pick rfl [(0, 0)] (by decide) ⟨rn_ptr 0 0 rfl rfl, rn_low rfl (.int _ _), trivial⟩ ⟨⟨_, rfl, rfl, .same _ _ _ _ (ltObj_es ⟨(lt_agg ⟨.int _ _, .int _ _, .int _ _, .int _ _, trivial⟩), trivial⟩)⟩, trivial⟩
  · rintro _ _ _ _ ⟨he, hw⟩
    refine ⟨_, _, _, hw, ?_⟩
    exact bodyQ_pure he [.agg [.int .i64 r.1.Sensor, .int .i64 r.1.Time, .int .i64 r.1.Span.Low, .int .i64 r.1.Span.High], .int .i64 r.2] ⟨rd_loadN rfl (getO_N rfl rfl) rfl ta_46 ts_46 rfl rfl rfl, rfl, trivial⟩ ((lt_tup ⟨(lt_agg ⟨.int _ _, .int _ _, .int _ _, .int _ _, trivial⟩), .int _ _, trivial⟩)) ⟨rfl, rfl⟩

theorem F_law05_SensorDecodes_ok {p0 : List Int} {p1 : List T_Sensor} {p2 : T_Frame} {p3 : Int} {r : Bool} (hF : F_law05_SensorDecodes p0 p1 p2 p3 = some r) (low : List AObj) :
    VCalls Try.prog 5 [.vs 1 (List.map (PV.int .u8) p0), .vs 8 (List.map T_Sensor.enc p1), .agg [.int .i64 p2.Address, .int .i64 p2.Kind, .vs 1 (List.map (PV.int .u8) p2.Data)], .int .i64 p3] low fun x low' => x = .bool r ∧ low' = low := by
  refine vcalls_of_body (nt := 126) (rs := [.tmp 8]) Try.func5 rfl rfl (Nat.le_of_ble_eq_true rfl) rfl ?_
  refine vwp_monoW (Q' := FnE (fun E' lw lc => Weak E' lw lc [(8, .bool r)] low [])) ?_ ?_
  · unfold F_law05_SensorDecodes at hF
    refine vwp_seq ?_
    refine vwp_region ?_
    refine vops_efE (vef_boxN rfl rfl (v := .agg [.int .i64 p2.Address, .int .i64 p2.Kind, .vs 1 (List.map (PV.int .u8) p2.Data)]) rfl rfl (Nat.succ_pos _) rfl rfl) rfl ?_
    refine vops_rd (rd_asB rfl) rfl ?_
    refine vops_nil ?_
    refine vwp_seq ?_
    refine vwp_seq ?_
    obtain ⟨o1, ho1, hF⟩ := bnd hF
    refine vwp_monoW (Q' := (fun o1 => OnlyE .normal (fun E' lw lc => Weak E' lw lc [(0, .vs 1 (List.map (PV.int .u8) p0)), (1, .vs 8 (List.map T_Sensor.enc p1)), (3, .int .i64 p3), (6, .ptr (low.length + 0) 0 0 0), (32, .bool o1)] low [⟨37, 3, [.agg [.int .i64 p2.Address, .int .i64 p2.Kind, .vs 1 (List.map (PV.int .u8) p2.Data)]], 0⟩])) o1) ?_ ?_
    · replace hF := ho1
      refine vwp_region ?_
      rcases Bool.eq_false_or_eq_true (decide (20 < ((p1).length : Int))) with c2 | c2
      · have hF := bifT c2 hF
        refine vops_rd (rd_mvV rfl) rfl ?_
        refine vops_rd (rd_to (rd_lenV rfl rfl te_31) (congrArg (fun n : Nat => PV.int .i64 (n : Int)) (List.length_map _))) rfl ?_
        refine vops_rd (rd_gtr rfl rfl) rfl ?_
        refine vops_rd (rd_mvB rfl) rfl ?_
        refine vops_skip rfl rfl (neT c2) rfl ?_
        refine vops_skip rfl rfl (neT c2) rfl ?_
        refine vops_skip rfl rfl (neT c2) rfl ?_
        refine vops_skip rfl rfl (neT c2) rfl ?_
        refine vops_rd (rd_pickT (congrArg PV.bool c2) rfl) rfl ?_
        refine vops_nil ?_
        obtain rfl := Option.some.inj hF
        refine onlyE ?_
        exact weak_sub ⟨rfl, rfl, rfl, rfl, rfl, trivial⟩
      · have hF := bifF c2 hF
        refine vops_rd (rd_mvV rfl) rfl ?_
        refine vops_rd (rd_to (rd_lenV rfl rfl te_31) (congrArg (fun n : Nat => PV.int .i64 (n : Int)) (List.length_map _))) rfl ?_
        refine vops_rd (rd_gtr rfl rfl) rfl ?_
        refine vops_rd (rd_mvB rfl) rfl ?_
        refine vops_take rfl (congrArg PV.bool c2) ?_
        refine vops_rd (rd_fieldAddr rfl tf_37_2 ts_22 (by decide)) rfl ?_
        refine vops_take rfl (congrArg PV.bool c2) ?_
        refine vops_rd (rd_load1 rfl (getO_N rfl rfl) rfl ta_22 rfl) rfl ?_
        refine vops_take rfl (congrArg PV.bool c2) ?_
        refine vops_rd (rd_to (rd_lenV rfl rfl te_22) (congrArg (fun n : Nat => PV.int .i64 (n : Int)) (List.length_map _))) rfl ?_
        refine vops_take rfl (congrArg PV.bool c2) ?_
        refine vops_rd (rd_gtr rfl rfl) rfl ?_
        refine vops_rd (rd_pickF (congrArg PV.bool c2) rfl) rfl ?_
        refine vops_nil ?_
        obtain rfl := Option.some.inj hF
        refine onlyE ?_
        exact weak_sub ⟨rfl, rfl, rfl, rfl, rfl, trivial⟩
    · rintro _ _ _ _ ⟨rfl, hw⟩
      refine ⟨_, _, _, hw, ?_⟩
      refine vwp_cond rfl (fun c3 => ?_) (fun c3 => ?_)
      · have hF := bifT c3 hF
        refine vwp_seq ?_
        refine vwp_region ?_
        obtain ⟨x4, h5, hF⟩ := bnd hF
        refine vops_efE (vef_callP rfl Try.call13 (F_law05_awake_ok h5 _)) rfl ?_
        refine vops_rd (rd_asB rfl) rfl ?_
        refine vops_nil ?_
        refine vwp_ret ?_
        obtain rfl := Option.some.inj hF
        refine fnR ?_
        exact weak_pick rfl [] (by decide) ⟨rn_low rfl (.bool _), trivial⟩ trivial
      · have hF := bifF c3 hF
        refine vwp_skip ?_
        refine vwp_seq ?_
        refine vwp_region ?_
        obtain ⟨x6, h7, hF⟩ := bnd hF
        refine vops_rd (rd_mvV rfl) rfl ?_
        refine vops_efE (vef_callN (r := .ptr (low.length + 1) 0 0 0) (os := [⟨64, 2, [.agg [.vs 1 (List.map (PV.int .u8) x6.l), .int .i64 x6.at_]], 0⟩]) rfl Try.call17 (F_draw_New_ok h7 _ (len_app rfl rfl))) rfl ?_
        refine vops_rd (rd_asP rfl) rfl ?_
        refine vops_nil ?_
        refine vwp_seq ?_
        refine vwp_region ?_
        obtain ⟨x8, h9, hF⟩ := bnd hF
        obtain ⟨x10, h11, hF⟩ := bnd hF
        obtain ⟨x12, h13, hF⟩ := bnd hF
        obtain ⟨x14, h15, hF⟩ := bnd hF
        obtain ⟨x16, h17, hF⟩ := bnd hF
        obtain ⟨x18, h19, hF⟩ := bnd hF
        obtain ⟨x20, h21, hF⟩ := bnd hF
        obtain ⟨x22, h23, hF⟩ := bnd hF
        obtain ⟨x24, h25, hF⟩ := bnd hF
        refine vops_rd (rd_mvP rfl) rfl ?_
        refine vops_rd (rd_mvP rfl) rfl ?_
        refine vops_efE (vef_callMN (k := 1) (loc1 := [⟨37, 3, [.agg [.int .i64 p2.Address, .int .i64 p2.Kind, .vs 1 (List.map (PV.int .u8) p2.Data)]], 0⟩, ⟨64, 2, [.agg [.vs 1 (List.map (PV.int .u8) x8.1.l), .int .i64 x8.1.at_]], 0⟩]) rfl rfl Try.call19 (F_draw_Codes_Range_ok h9 (get_N rfl rfl)) rfl) rfl ?_
        refine vops_rd (rd_mvP rfl) rfl ?_
        refine vops_efE (vef_callMN (k := 1) (loc1 := [⟨37, 3, [.agg [.int .i64 p2.Address, .int .i64 p2.Kind, .vs 1 (List.map (PV.int .u8) p2.Data)]], 0⟩, ⟨64, 2, [.agg [.vs 1 (List.map (PV.int .u8) x10.1.l), .int .i64 x10.1.at_]], 0⟩]) rfl rfl Try.call20 (F_draw_Codes_Next_ok h11 (get_N rfl rfl)) rfl) rfl ?_
        refine vops_efE (vef_callMN (k := 1) (loc1 := [⟨37, 3, [.agg [.int .i64 p2.Address, .int .i64 p2.Kind, .vs 1 (List.map (PV.int .u8) p2.Data)]], 0⟩, ⟨64, 2, [.agg [.vs 1 (List.map (PV.int .u8) x12.1.l), .int .i64 x12.1.at_]], 0⟩]) rfl rfl Try.call18 (F_draw_Codes_Sensor_ok h13 (get_N rfl rfl)) rfl) rfl ?_
        refine vops_rd (rd_mvP rfl) rfl ?_
        refine vops_rd (rd_mvP rfl) rfl ?_
        refine vops_efE (vef_callMN (k := 1) (loc1 := [⟨37, 3, [.agg [.int .i64 p2.Address, .int .i64 p2.Kind, .vs 1 (List.map (PV.int .u8) p2.Data)]], 0⟩, ⟨64, 2, [.agg [.vs 1 (List.map (PV.int .u8) x14.1.l), .int .i64 x14.1.at_]], 0⟩]) rfl rfl Try.call19 (F_draw_Codes_Range_ok h15 (get_N rfl rfl)) rfl) rfl ?_
        refine vops_rd (rd_mvP rfl) rfl ?_
        refine vops_efE (vef_callMN (k := 1) (loc1 := [⟨37, 3, [.agg [.int .i64 p2.Address, .int .i64 p2.Kind, .vs 1 (List.map (PV.int .u8) p2.Data)]], 0⟩, ⟨64, 2, [.agg [.vs 1 (List.map (PV.int .u8) x16.1.l), .int .i64 x16.1.at_]], 0⟩]) rfl rfl Try.call20 (F_draw_Codes_Next_ok h17 (get_N rfl rfl)) rfl) rfl ?_
        refine vops_efE (vef_callMN (k := 1) (loc1 := [⟨37, 3, [.agg [.int .i64 p2.Address, .int .i64 p2.Kind, .vs 1 (List.map (PV.int .u8) p2.Data)]], 0⟩, ⟨64, 2, [.agg [.vs 1 (List.map (PV.int .u8) x18.1.l), .int .i64 x18.1.at_]], 0⟩]) rfl rfl Try.call18 (F_draw_Codes_Sensor_ok h19 (get_N rfl rfl)) rfl) rfl ?_
        refine vops_rd (rd_mvP rfl) rfl ?_
        refine vops_rd (rd_mvP rfl) rfl ?_
        refine vops_efE (vef_callMN (k := 1) (loc1 := [⟨37, 3, [.agg [.int .i64 p2.Address, .int .i64 p2.Kind, .vs 1 (List.map (PV.int .u8) p2.Data)]], 0⟩, ⟨64, 2, [.agg [.vs 1 (List.map (PV.int .u8) x20.1.l), .int .i64 x20.1.at_]], 0⟩]) rfl rfl Try.call19 (F_draw_Codes_Range_ok h21 (get_N rfl rfl)) rfl) rfl ?_
        refine vops_rd (rd_mvP rfl) rfl ?_
        refine vops_efE (vef_callMN (k := 1) (loc1 := [⟨37, 3, [.agg [.int .i64 p2.Address, .int .i64 p2.Kind, .vs 1 (List.map (PV.int .u8) p2.Data)]], 0⟩, ⟨64, 2, [.agg [.vs 1 (List.map (PV.int .u8) x22.1.l), .int .i64 x22.1.at_]], 0⟩]) rfl rfl Try.call20 (F_draw_Codes_Next_ok h23 (get_N rfl rfl)) rfl) rfl ?_
        refine vops_rd (rd_mul rfl rfl rfl) rfl ?_
        refine vops_efE (vef_callMN (k := 1) (loc1 := [⟨37, 3, [.agg [.int .i64 p2.Address, .int .i64 p2.Kind, .vs 1 (List.map (PV.int .u8) p2.Data)]], 0⟩, ⟨64, 2, [.agg [.vs 1 (List.map (PV.int .u8) x24.1.l), .int .i64 x24.1.at_]], 0⟩]) rfl rfl Try.call18 (F_draw_Codes_Sensor_ok h25 (get_N rfl rfl)) rfl) rfl ?_
        refine vops_efE (vef_litF (es := List.map T_Sensor.enc [x12.2, x18.2, x24.2]) ⟨rfl, rfl, rfl, rfl, rfl, rfl, trivial⟩ rfl rfl (nt_all rfl) te_31 ts_24 tz_24 rfl rfl (Nat.succ_pos _) (by decide) (lt_map T_Sensor.enc_lt)) rfl ?_
        refine vops_rd (rd_asV rfl) rfl ?_
        refine vops_nil ?_
        refine vwp_seq ?_
        refine vwp_region ?_
        obtain ⟨x26, h27, hF⟩ := bnd hF
        refine vops_rd (rd_mvI rfl) rfl ?_
        refine vops_efE (vef_callP rfl Try.call14 (F_draw_Mod_ok h27 _)) rfl ?_
        refine vops_rd (rd_asI rfl) rfl ?_
        refine vops_nil ?_
        refine vwp_seq ?_
        refine vwp_seq ?_
        obtain ⟨x28, h29, hF⟩ := bnd hF
        obtain ⟨x30, h31, hF⟩ := bnd hF
        refine vwp_drawn [[], [], [1], [], [1, 2, 3], [0, 1, 2, 3, 4], [0, 1, 2, 3, 4, 5], []] [false, false, true, false, true, false, false, false] [(low, [⟨37, 3, [.agg [.int .i64 p2.Address, .int .i64 p2.Kind, .vs 1 (List.map (PV.int .u8) p2.Data)]], 0⟩, ⟨64, 2, [.agg [.vs 1 (List.map (PV.int .u8) x24.1.l), .int .i64 x24.1.at_]], 0⟩]), (low, [⟨37, 3, [.agg [.int .i64 p2.Address, .int .i64 p2.Kind, .vs 1 (List.map (PV.int .u8) p2.Data)]], 0⟩, ⟨64, 2, [.agg [.vs 1 (List.map (PV.int .u8) x28.1.l), .int .i64 x28.1.at_]], 0⟩]), (low, [⟨37, 3, [.agg [.int .i64 p2.Address, .int .i64 p2.Kind, .vs 1 (List.map (PV.int .u8) p2.Data)]], 0⟩, ⟨64, 2, [.agg [.vs 1 (List.map (PV.int .u8) x30.1.l), .int .i64 x30.1.at_]], 0⟩])] mixed (by kernel_rfl) rfl (lenAll (all1 rfl (all1 rfl (all1 rfl all0)))) rfl (low, [⟨37, 3, [.agg [.int .i64 p2.Address, .int .i64 p2.Kind, .vs 1 (List.map (PV.int .u8) p2.Data)]], 0⟩, ⟨64, 2, [.agg [.vs 1 (List.map (PV.int .u8) x30.1.l), .int .i64 x30.1.at_]], 0⟩]) rfl rfl ?_
        refine dops_rdW [(low, [⟨37, 3, [.agg [.int .i64 p2.Address, .int .i64 p2.Kind, .vs 1 (List.map (PV.int .u8) p2.Data)]], 0⟩, ⟨64, 2, [.agg [.vs 1 (List.map (PV.int .u8) x24.1.l), .int .i64 x24.1.at_]], 0⟩]), (low, [⟨37, 3, [.agg [.int .i64 p2.Address, .int .i64 p2.Kind, .vs 1 (List.map (PV.int .u8) p2.Data)]], 0⟩, ⟨64, 2, [.agg [.vs 1 (List.map (PV.int .u8) x28.1.l), .int .i64 x28.1.at_]], 0⟩]), (low, [⟨37, 3, [.agg [.int .i64 p2.Address, .int .i64 p2.Kind, .vs 1 (List.map (PV.int .u8) p2.Data)]], 0⟩, ⟨64, 2, [.agg [.vs 1 (List.map (PV.int .u8) x30.1.l), .int .i64 x30.1.at_]], 0⟩])] rfl rfl (all1 (VRd.ntl (rd_loadN (ds := [.int .i64 p2.Address, .int .i64 p2.Kind, .vs 1 (List.map (PV.int .u8) p2.Data)]) rfl (getO_N rfl rfl) rfl ta_37 ts_37 rfl rfl rfl)) (all1 (VRd.ntl (rd_loadN (ds := [.int .i64 p2.Address, .int .i64 p2.Kind, .vs 1 (List.map (PV.int .u8) p2.Data)]) rfl (getO_N rfl rfl) rfl ta_37 ts_37 rfl rfl rfl)) (all1 (VRd.ntl (rd_loadN (ds := [.int .i64 p2.Address, .int .i64 p2.Kind, .vs 1 (List.map (PV.int .u8) p2.Data)]) rfl (getO_N rfl rfl) rfl ta_37 ts_37 rfl rfl rfl)) all0))) ?_
        refine dops_rdW [(low, [⟨37, 3, [.agg [.int .i64 p2.Address, .int .i64 p2.Kind, .vs 1 (List.map (PV.int .u8) p2.Data)]], 0⟩, ⟨64, 2, [.agg [.vs 1 (List.map (PV.int .u8) x24.1.l), .int .i64 x24.1.at_]], 0⟩])] rfl rfl (all1 (VRd.ntl (rd_mvP rfl)) all0) ?_
        refine dops_ef (M := (low, [⟨37, 3, [.agg [.int .i64 p2.Address, .int .i64 p2.Kind, .vs 1 (List.map (PV.int .u8) p2.Data)]], 0⟩, ⟨64, 2, [.agg [.vs 1 (List.map (PV.int .u8) x24.1.l), .int .i64 x24.1.at_]], 0⟩])) (M' := (low, [⟨37, 3, [.agg [.int .i64 p2.Address, .int .i64 p2.Kind, .vs 1 (List.map (PV.int .u8) p2.Data)]], 0⟩, ⟨64, 2, [.agg [.vs 1 (List.map (PV.int .u8) x28.1.l), .int .i64 x28.1.at_]], 0⟩])) rfl rfl rfl (vef_callMN (k := 1) (loc1 := [⟨37, 3, [.agg [.int .i64 p2.Address, .int .i64 p2.Kind, .vs 1 (List.map (PV.int .u8) p2.Data)]], 0⟩, ⟨64, 2, [.agg [.vs 1 (List.map (PV.int .u8) x28.1.l), .int .i64 x28.1.at_]], 0⟩]) rfl rfl Try.call21 (F_draw_Codes_Frame_ok h29 (get_N rfl rfl)) rfl) ?_
        refine dops_rdW [(low, [⟨37, 3, [.agg [.int .i64 p2.Address, .int .i64 p2.Kind, .vs 1 (List.map (PV.int .u8) p2.Data)]], 0⟩, ⟨64, 2, [.agg [.vs 1 (List.map (PV.int .u8) x24.1.l), .int .i64 x24.1.at_]], 0⟩]), (low, [⟨37, 3, [.agg [.int .i64 p2.Address, .int .i64 p2.Kind, .vs 1 (List.map (PV.int .u8) p2.Data)]], 0⟩, ⟨64, 2, [.agg [.vs 1 (List.map (PV.int .u8) x28.1.l), .int .i64 x28.1.at_]], 0⟩])] rfl rfl (all1 (VRd.ntl (rd_mvP rfl)) (all1 (VRd.ntl (rd_mvP rfl)) all0)) ?_
        refine dops_ef (M := (low, [⟨37, 3, [.agg [.int .i64 p2.Address, .int .i64 p2.Kind, .vs 1 (List.map (PV.int .u8) p2.Data)]], 0⟩, ⟨64, 2, [.agg [.vs 1 (List.map (PV.int .u8) x28.1.l), .int .i64 x28.1.at_]], 0⟩])) (M' := (low, [⟨37, 3, [.agg [.int .i64 p2.Address, .int .i64 p2.Kind, .vs 1 (List.map (PV.int .u8) p2.Data)]], 0⟩, ⟨64, 2, [.agg [.vs 1 (List.map (PV.int .u8) x30.1.l), .int .i64 x30.1.at_]], 0⟩])) rfl rfl rfl (vef_callMN (k := 1) (loc1 := [⟨37, 3, [.agg [.int .i64 p2.Address, .int .i64 p2.Kind, .vs 1 (List.map (PV.int .u8) p2.Data)]], 0⟩, ⟨64, 2, [.agg [.vs 1 (List.map (PV.int .u8) x30.1.l), .int .i64 x30.1.at_]], 0⟩]) rfl rfl Try.call21 (F_draw_Codes_Frame_ok h31 (get_N rfl rfl)) rfl) ?_
        refine dops_rdW [(low, [⟨37, 3, [.agg [.int .i64 p2.Address, .int .i64 p2.Kind, .vs 1 (List.map (PV.int .u8) p2.Data)]], 0⟩, ⟨64, 2, [.agg [.vs 1 (List.map (PV.int .u8) x30.1.l), .int .i64 x30.1.at_]], 0⟩])] rfl rfl (all1 (nt_of (vef_litF (es := List.map T_Frame.enc [p2, x28.2, x30.2]) ⟨rfl, rfl, rfl, rfl, rfl, rfl, trivial⟩ rfl rfl (nt_all rfl) te_43 ts_37 tz_37 rfl rfl (Nat.succ_pos _) (by decide) (lt_map T_Frame.enc_lt))) all0) ?_
        refine dops_rdW [(low, [⟨37, 3, [.agg [.int .i64 p2.Address, .int .i64 p2.Kind, .vs 1 (List.map (PV.int .u8) p2.Data)]], 0⟩, ⟨64, 2, [.agg [.vs 1 (List.map (PV.int .u8) x30.1.l), .int .i64 x30.1.at_]], 0⟩])] rfl rfl (all1 (VRd.ntl (rd_to (rd_lenV rfl rfl te_43) (congrArg (fun n : Nat => PV.int .i64 (n : Int)) (List.length_map _)))) all0) ?_
        refine dops_rdW [(low, [⟨37, 3, [.agg [.int .i64 p2.Address, .int .i64 p2.Kind, .vs 1 (List.map (PV.int .u8) p2.Data)]], 0⟩, ⟨64, 2, [.agg [.vs 1 (List.map (PV.int .u8) x24.1.l), .int .i64 x24.1.at_]], 0⟩]), (low, [⟨37, 3, [.agg [.int .i64 p2.Address, .int .i64 p2.Kind, .vs 1 (List.map (PV.int .u8) p2.Data)]], 0⟩, ⟨64, 2, [.agg [.vs 1 (List.map (PV.int .u8) x28.1.l), .int .i64 x28.1.at_]], 0⟩]), (low, [⟨37, 3, [.agg [.int .i64 p2.Address, .int .i64 p2.Kind, .vs 1 (List.map (PV.int .u8) p2.Data)]], 0⟩, ⟨64, 2, [.agg [.vs 1 (List.map (PV.int .u8) x30.1.l), .int .i64 x30.1.at_]], 0⟩])] rfl rfl (all1 (VRd.ntl (rd_mvI rfl)) (all1 (VRd.ntl (rd_mvI rfl)) (all1 (VRd.ntl (rd_mvI rfl)) all0))) ?_
        refine dops_nil ?_
        refine vwp_block ?_
        obtain ⟨o33, ho33, hF⟩ := bnd hF
        refine vwp_monoW (vwp_loopC (F_law05_SensorDecodes_L1 p1 p2 p3 x12 x18 x24 x26 x28 x30) (fun s32 E' lw lc => Weak E' lw lc [(1, .vs 8 (List.map T_Sensor.enc p1)), (3, .int .i64 p3), (10, .vs 8 (List.map T_Sensor.enc [x12.2, x18.2, x24.2])), (11, .int .i64 x26), (63, .vs 3 (List.map T_Frame.enc [p2, x28.2, x30.2])), (64, .int .i64 (([p2, x28.2, x30.2]).length : Int)), (65, .int .i64 s32)] low []) (Sum.elim (fun j34 => OnlyE .ret (fun E' lw lc => Weak E' lw lc [(8, .bool false)] low [])) (fun j35 => OnlyE (.exit 0) (fun E' lw lc => Weak E' lw lc [] low []))) ho33 ?_ (by rintro (_|_) _ _ _ ⟨h, _⟩ <;> cases h) ?_) ?_
        · exact weak_pick rfl [] (by decide) ⟨rn_low rfl (.vs _ _), rn_low rfl (.int _ _), rn_low rfl (.vs _ _), rn_low rfl (.int _ _), rn_low rfl (.vs _ _), rn_low rfl (.int _ _), rn_low rfl (.int _ _), trivial⟩ trivial
        · rintro s32 os32 _ _ _ hF hw
          unfold F_law05_SensorDecodes_L1 at hF
          refine vwp_weak hw ?_
          refine vwp_seq ?_
          refine vwp_region ?_
          refine vops_rd (rd_lss rfl rfl) rfl ?_
          refine vops_nil ?_
          refine vwp_seq ?_
          refine vwp_cond rfl (fun c36 => ?_) (fun c36 => ?_)
          · have hF := bifT c36 hF
            refine vwp_skip ?_
            refine vwp_seq ?_
            refine vwp_block ?_
            refine vwp_seq ?_
            refine vwp_region ?_
            obtain ⟨x37, h38, hF⟩ := bnd hF
            refine vops_rd (rd_to (rd_ixV rfl rfl h38 te_43 ts_37) (v' := .vptr [.int .i64 x37.Address, .int .i64 x37.Kind, .vs 1 (List.map (PV.int .u8) x37.Data)] 0) rfl) rfl ?_
            refine vops_rd (rd_loadVN (ds := [.int .i64 x37.Address, .int .i64 x37.Kind, .vs 1 (List.map (PV.int .u8) x37.Data)]) rfl ta_37 ts_37 rfl rfl) rfl ?_
            refine vops_efE (vef_allocN rfl rfl tz_37 rfl rfl (Nat.succ_pos _) rfl) rfl ?_
            refine vops_efE (vef_store (p := .agg [.int .i64 x37.Address, .int .i64 x37.Kind, .vs 1 (List.map (PV.int .u8) x37.Data)]) (e' := .agg [.int .i64 x37.Address, .int .i64 x37.Kind, .vs 1 (List.map (PV.int .u8) x37.Data)]) rfl (getO_N rfl rfl) rfl rfl ts_37 rfl (nt_ne rfl) rfl (Nat.le_of_ble_eq_true rfl) rfl (setO_N rfl rfl)) rfl ?_
            refine vops_nil ?_
            refine vwp_seq ?_
            refine vwp_region ?_
            refine vops_rd (rd_mvV rfl) rfl ?_
            refine vops_rd (rd_mvV rfl) rfl ?_
            refine vops_efE (vef_litF (es := List.map (encS 8 T_Sensor.enc) [[x12.2, x18.2, x24.2], p1]) ⟨rfl, rfl, rfl, rfl, trivial⟩ rfl rfl (nt_all rfl) te_44 ts_31 tz_31 rfl rfl (Nat.succ_pos _) (by decide) (lt_map (fun _ => .vs _ _))) rfl ?_
            refine vops_rd (rd_to (rd_lenV rfl rfl te_44) (congrArg (fun n : Nat => PV.int .i64 (n : Int)) (List.length_map _))) rfl ?_
            refine vops_rd (rd_mvI rfl) rfl ?_
            refine vops_nil ?_
            refine vwp_block ?_
            obtain ⟨o40, ho40, hF⟩ := bnd hF
            refine vwp_monoW (vwp_loopC (F_law05_SensorDecodes_L2 p1 p3 x12 x18 x24 x26 x37) (fun s39 E' lw lc => Weak E' lw lc [(1, .vs 8 (List.map T_Sensor.enc p1)), (3, .int .i64 p3), (10, .vs 8 (List.map T_Sensor.enc [x12.2, x18.2, x24.2])), (11, .int .i64 x26), (13, .ptr (low.length + 0) 0 0 0), (63, .vs 3 (List.map T_Frame.enc [p2, x28.2, x30.2])), (64, .int .i64 (([p2, x28.2, x30.2]).length : Int)), (65, .int .i64 s32), (71, .vs 1 (List.map (encS 8 T_Sensor.enc) [[x12.2, x18.2, x24.2], p1])), (72, .int .i64 (([[x12.2, x18.2, x24.2], p1]).length : Int)), (73, .int .i64 s39)] low [⟨37, 3, [.agg [.int .i64 x37.Address, .int .i64 x37.Kind, .vs 1 (List.map (PV.int .u8) x37.Data)]], 0⟩]) (Sum.elim (fun j41 => OnlyE .ret (fun E' lw lc => Weak E' lw lc [(8, .bool false)] low [])) (fun j42 => OnlyE (.exit 2) (fun E' lw lc => Weak E' lw lc [(1, .vs 8 (List.map T_Sensor.enc p1)), (3, .int .i64 p3), (10, .vs 8 (List.map T_Sensor.enc [x12.2, x18.2, x24.2])), (11, .int .i64 x26), (63, .vs 3 (List.map T_Frame.enc [p2, x28.2, x30.2])), (64, .int .i64 (([p2, x28.2, x30.2]).length : Int)), (65, .int .i64 s32)] low []))) ho40 ?_ (by rintro (_|_) _ _ _ ⟨h, _⟩ <;> cases h) ?_) ?_
            · exact weak_sub ⟨rfl, rfl, rfl, rfl, rfl, rfl, rfl, rfl, rfl, rfl, rfl, trivial⟩
            · rintro s39 os39 _ _ _ hF hw
              unfold F_law05_SensorDecodes_L2 at hF
              refine vwp_weak hw ?_
              refine vwp_seq ?_
              refine vwp_region ?_
              refine vops_rd (rd_lss rfl rfl) rfl ?_
              refine vops_nil ?_
              refine vwp_seq ?_
              refine vwp_cond rfl (fun c43 => ?_) (fun c43 => ?_)
              · have hF := bifT c43 hF
                refine vwp_skip ?_
                refine vwp_seq ?_
                refine vwp_block ?_
                refine vwp_seq ?_
                refine vwp_region ?_
                obtain ⟨x44, h45, hF⟩ := bnd hF
                refine vops_rd (rd_to (rd_ixV rfl rfl h45 te_44 ts_31) (v' := .vptr [.vs 8 (List.map T_Sensor.enc x44)] 0) rfl) rfl ?_
                refine vops_rd (rd_loadV1 rfl ta_31 rfl) rfl ?_
                refine vops_rd (rd_asV rfl) rfl ?_
                refine vops_nil ?_
                refine vwp_seq ?_
                refine vwp_region ?_
                obtain ⟨x46, h47, hF⟩ := bnd hF
                refine vops_rd (rd_mvV rfl) rfl ?_
                refine vops_rd (rd_loadN (ds := [.int .i64 x37.Address, .int .i64 x37.Kind, .vs 1 (List.map (PV.int .u8) x37.Data)]) rfl (getO_N rfl rfl) rfl ta_37 ts_37 rfl rfl rfl) rfl ?_
                refine vops_rd (rd_mvI rfl) rfl ?_
                refine vops_efE (vef_callP rfl Try.call22 (F_sensor_Decode_ok h47 _)) rfl ?_
                refine vops_rd (rd_mvT rfl) rfl ?_
                refine vops_rd (rd_extract rfl rfl) rfl ?_
                refine vops_rd (rd_extract rfl rfl) rfl ?_
                refine vops_efE (vef_allocN rfl rfl tz_46 rfl rfl (Nat.succ_pos _) rfl) rfl ?_
                refine vops_efE (vef_store (p := .agg [.int .i64 x46.1.Sensor, .int .i64 x46.1.Time, .int .i64 x46.1.Span.Low, .int .i64 x46.1.Span.High]) (e' := .agg [.int .i64 x46.1.Sensor, .int .i64 x46.1.Time, .int .i64 x46.1.Span.Low, .int .i64 x46.1.Span.High]) rfl (getO_N rfl rfl) rfl rfl ts_46 rfl (nt_ne rfl) rfl (Nat.le_of_ble_eq_true rfl) rfl (setO_N rfl rfl)) rfl ?_
                refine vops_rd (rd_asI rfl) rfl ?_
                refine vops_nil ?_
                refine vwp_seq ?_
                refine vwp_region ?_
                obtain ⟨x48, h49, hF⟩ := bnd hF
                refine vops_rd (rd_mvV rfl) rfl ?_
                refine vops_rd (rd_loadN (ds := [.int .i64 x37.Address, .int .i64 x37.Kind, .vs 1 (List.map (PV.int .u8) x37.Data)]) rfl (getO_N rfl rfl) rfl ta_37 ts_37 rfl rfl rfl) rfl ?_
                refine vops_rd (rd_mvI rfl) rfl ?_
                refine vops_efE (vef_callP rfl Try.call23 (F_ref05_Decode_ok h49 _)) rfl ?_
                refine vops_rd (rd_mvT rfl) rfl ?_
                refine vops_rd (rd_extract rfl rfl) rfl ?_
                refine vops_rd (rd_extract rfl rfl) rfl ?_
                refine vops_efE (vef_allocN rfl rfl tz_46 rfl rfl (Nat.succ_pos _) rfl) rfl ?_
                refine vops_efE (vef_store (p := .agg [.int .i64 x48.1.Sensor, .int .i64 x48.1.Time, .int .i64 x48.1.Span.Low, .int .i64 x48.1.Span.High]) (e' := .agg [.int .i64 x48.1.Sensor, .int .i64 x48.1.Time, .int .i64 x48.1.Span.Low, .int .i64 x48.1.Span.High]) rfl (getO_N rfl rfl) rfl rfl ts_46 rfl (nt_ne rfl) rfl (Nat.le_of_ble_eq_true rfl) rfl (setO_N rfl rfl)) rfl ?_
                refine vops_rd (rd_asI rfl) rfl ?_
                refine vops_nil ?_
                refine vwp_seq ?_
                refine vwp_region ?_
                obtain ⟨x50, h51, hF⟩ := bnd hF
                refine vops_rd (rd_mvV rfl) rfl ?_
                refine vops_rd (rd_loadN (ds := [.int .i64 x37.Address, .int .i64 x37.Kind, .vs 1 (List.map (PV.int .u8) x37.Data)]) rfl (getO_N rfl rfl) rfl ta_37 ts_37 rfl rfl rfl) rfl ?_
                refine vops_rd (rd_mvI rfl) rfl ?_
                refine vops_efE (vef_callP rfl Try.call22 (F_sensor_Decode_ok h51 _)) rfl ?_
                refine vops_rd (rd_mvT rfl) rfl ?_
                refine vops_rd (rd_extract rfl rfl) rfl ?_
                refine vops_rd (rd_extract rfl rfl) rfl ?_
                refine vops_efE (vef_allocN rfl rfl tz_46 rfl rfl (Nat.succ_pos _) rfl) rfl ?_
                refine vops_efE (vef_store (p := .agg [.int .i64 x50.1.Sensor, .int .i64 x50.1.Time, .int .i64 x50.1.Span.Low, .int .i64 x50.1.Span.High]) (e' := .agg [.int .i64 x50.1.Sensor, .int .i64 x50.1.Time, .int .i64 x50.1.Span.Low, .int .i64 x50.1.Span.High]) rfl (getO_N rfl rfl) rfl rfl ts_46 rfl (nt_ne rfl) rfl (Nat.le_of_ble_eq_true rfl) rfl (setO_N rfl rfl)) rfl ?_
                refine vops_rd (rd_asI rfl) rfl ?_
                refine vops_nil ?_
                refine vwp_seq ?_
                refine vwp_region ?_
                obtain ⟨x52, h53, hF⟩ := bnd hF
                refine vops_rd (rd_mvV rfl) rfl ?_
                refine vops_rd (rd_loadN (ds := [.int .i64 x37.Address, .int .i64 x37.Kind, .vs 1 (List.map (PV.int .u8) x37.Data)]) rfl (getO_N rfl rfl) rfl ta_37 ts_37 rfl rfl rfl) rfl ?_
                refine vops_rd (rd_mvI rfl) rfl ?_
                refine vops_efE (vef_callP rfl Try.call23 (F_ref05_Decode_ok h53 _)) rfl ?_
                refine vops_rd (rd_mvT rfl) rfl ?_
                refine vops_rd (rd_extract rfl rfl) rfl ?_
                refine vops_rd (rd_extract rfl rfl) rfl ?_
                refine vops_efE (vef_allocN rfl rfl tz_46 rfl rfl (Nat.succ_pos _) rfl) rfl ?_
                refine vops_efE (vef_store (p := .agg [.int .i64 x52.1.Sensor, .int .i64 x52.1.Time, .int .i64 x52.1.Span.Low, .int .i64 x52.1.Span.High]) (e' := .agg [.int .i64 x52.1.Sensor, .int .i64 x52.1.Time, .int .i64 x52.1.Span.Low, .int .i64 x52.1.Span.High]) rfl (getO_N rfl rfl) rfl rfl ts_46 rfl (nt_ne rfl) rfl (Nat.le_of_ble_eq_true rfl) rfl (setO_N rfl rfl)) rfl ?_
                refine vops_rd (rd_asI rfl) rfl ?_
                refine vops_nil ?_
                refine vwp_seq ?_
                obtain ⟨o54, ho54, hF⟩ := bnd hF
                refine vwp_monoW (Q' := (fun o54 => OnlyE .normal (fun E' lw lc => Weak E' lw lc [(1, .vs 8 (List.map T_Sensor.enc p1)), (3, .int .i64 p3), (10, .vs 8 (List.map T_Sensor.enc [x12.2, x18.2, x24.2])), (11, .int .i64 x26), (13, .ptr (low.length + 0) 0 0 0), (63, .vs 3 (List.map T_Frame.enc [p2, x28.2, x30.2])), (64, .int .i64 (([p2, x28.2, x30.2]).length : Int)), (65, .int .i64 s32), (71, .vs 1 (List.map (encS 8 T_Sensor.enc) [[x12.2, x18.2, x24.2], p1])), (72, .int .i64 (([[x12.2, x18.2, x24.2], p1]).length : Int)), (73, .int .i64 s39), (122, .bool o54)] low [⟨37, 3, [.agg [.int .i64 x37.Address, .int .i64 x37.Kind, .vs 1 (List.map (PV.int .u8) x37.Data)]], 0⟩])) o54) ?_ ?_
                · replace hF := ho54
                  refine vwp_region ?_
                  rcases Bool.eq_false_or_eq_true (!((x46.1.Sensor == x48.1.Sensor) && ((x46.1.Time == x48.1.Time) && (((x46.1.Span.Low == x48.1.Span.Low) && ((x46.1.Span.High == x48.1.Span.High) && true)) && true)))) with c55 | c55
                  · have hF := bifT c55 hF
                    refine vops_rd (rd_loadN (ds := [.int .i64 x46.1.Sensor, .int .i64 x46.1.Time, .int .i64 x46.1.Span.Low, .int .i64 x46.1.Span.High]) rfl (getO_N rfl rfl) rfl ta_46 ts_46 rfl rfl rfl) rfl ?_
                    refine vops_rd (rd_loadN (ds := [.int .i64 x48.1.Sensor, .int .i64 x48.1.Time, .int .i64 x48.1.Span.Low, .int .i64 x48.1.Span.High]) rfl (getO_N rfl rfl) rfl ta_46 ts_46 rfl rfl rfl) rfl ?_
                    refine vops_rd (rd_neqV (tab := eqTab) eqTab_ok rfl rfl eqg_46 rfl) rfl ?_
                    refine vops_rd (rd_mvB rfl) rfl ?_
                    refine vops_skip rfl rfl (neT c55) rfl ?_
                    refine vops_skip rfl rfl (neT c55) rfl ?_
                    refine vops_skip rfl rfl (neT c55) rfl ?_
                    refine vops_rd (rd_pickT (congrArg PV.bool c55) rfl) rfl ?_
                    refine vops_rd (rd_mvB rfl) rfl ?_
                    refine vops_skip rfl rfl (by decide) rfl ?_
                    refine vops_skip rfl rfl (by decide) rfl ?_
                    refine vops_skip rfl rfl (by decide) rfl ?_
                    refine vops_rd (rd_pickT rfl rfl) rfl ?_
                    refine vops_rd (rd_mvB rfl) rfl ?_
                    refine vops_skip rfl rfl (by decide) rfl ?_
                    refine vops_skip rfl rfl (by decide) rfl ?_
                    refine vops_skip rfl rfl (by decide) rfl ?_
                    refine vops_rd (rd_pickT rfl rfl) rfl ?_
                    refine vops_nil ?_
                    obtain rfl := Option.some.inj hF
                    refine onlyE ?_
                    exact weak_pick rfl [(0, 0)] (by decide) ⟨rn_low rfl (.vs _ _), rn_low rfl (.int _ _), rn_low rfl (.vs _ _), rn_low rfl (.int _ _), rn_ptr 0 0 rfl rfl, rn_low rfl (.vs _ _), rn_low rfl (.int _ _), rn_low rfl (.int _ _), rn_low rfl (.vs _ _), rn_low rfl (.int _ _), rn_low rfl (.int _ _), rn_low rfl (.bool _), trivial⟩ ⟨⟨_, rfl, rfl, .same _ _ _ _ (ltObj_es ⟨(lt_agg ⟨.int _ _, .int _ _, .vs _ _, trivial⟩), trivial⟩)⟩, trivial⟩
                  · have hF := bifF c55 hF
                    rcases Bool.eq_false_or_eq_true (decide (x46.2 ≠ x48.2)) with c56 | c56
                    · have hF := bifT c56 hF
                      refine vops_rd (rd_loadN (ds := [.int .i64 x46.1.Sensor, .int .i64 x46.1.Time, .int .i64 x46.1.Span.Low, .int .i64 x46.1.Span.High]) rfl (getO_N rfl rfl) rfl ta_46 ts_46 rfl rfl rfl) rfl ?_
                      refine vops_rd (rd_loadN (ds := [.int .i64 x48.1.Sensor, .int .i64 x48.1.Time, .int .i64 x48.1.Span.Low, .int .i64 x48.1.Span.High]) rfl (getO_N rfl rfl) rfl ta_46 ts_46 rfl rfl rfl) rfl ?_
                      refine vops_rd (rd_neqV (tab := eqTab) eqTab_ok rfl rfl eqg_46 rfl) rfl ?_
                      refine vops_rd (rd_mvB rfl) rfl ?_
                      refine vops_take rfl (congrArg PV.bool c55) ?_
                      refine vops_rd (rd_mvI rfl) rfl ?_
                      refine vops_take rfl (congrArg PV.bool c55) ?_
                      refine vops_rd (rd_mvI rfl) rfl ?_
                      refine vops_take rfl (congrArg PV.bool c55) ?_
                      refine vops_rd (rd_neq rfl rfl) rfl ?_
                      refine vops_rd (rd_pickF (congrArg PV.bool c55) rfl) rfl ?_
                      refine vops_rd (rd_mvB rfl) rfl ?_
                      refine vops_skip rfl rfl (neT c56) rfl ?_
                      refine vops_skip rfl rfl (neT c56) rfl ?_
                      refine vops_skip rfl rfl (neT c56) rfl ?_
                      refine vops_rd (rd_pickT (congrArg PV.bool c56) rfl) rfl ?_
                      refine vops_rd (rd_mvB rfl) rfl ?_
                      refine vops_skip rfl rfl (by decide) rfl ?_
                      refine vops_skip rfl rfl (by decide) rfl ?_
                      refine vops_skip rfl rfl (by decide) rfl ?_
                      refine vops_rd (rd_pickT rfl rfl) rfl ?_
                      refine vops_nil ?_
                      obtain rfl := Option.some.inj hF
                      refine onlyE ?_
                      exact weak_pick rfl [(0, 0)] (by decide) ⟨rn_low rfl (.vs _ _), rn_low rfl (.int _ _), rn_low rfl (.vs _ _), rn_low rfl (.int _ _), rn_ptr 0 0 rfl rfl, rn_low rfl (.vs _ _), rn_low rfl (.int _ _), rn_low rfl (.int _ _), rn_low rfl (.vs _ _), rn_low rfl (.int _ _), rn_low rfl (.int _ _), rn_low rfl (.bool _), trivial⟩ ⟨⟨_, rfl, rfl, .same _ _ _ _ (ltObj_es ⟨(lt_agg ⟨.int _ _, .int _ _, .vs _ _, trivial⟩), trivial⟩)⟩, trivial⟩
                    · have hF := bifF c56 hF
                      rcases Bool.eq_false_or_eq_true (!((x50.1.Sensor == x52.1.Sensor) && ((x50.1.Time == x52.1.Time) && (((x50.1.Span.Low == x52.1.Span.Low) && ((x50.1.Span.High == x52.1.Span.High) && true)) && true)))) with c57 | c57
                      · have hF := bifT c57 hF
                        refine vops_rd (rd_loadN (ds := [.int .i64 x46.1.Sensor, .int .i64 x46.1.Time, .int .i64 x46.1.Span.Low, .int .i64 x46.1.Span.High]) rfl (getO_N rfl rfl) rfl ta_46 ts_46 rfl rfl rfl) rfl ?_
                        refine vops_rd (rd_loadN (ds := [.int .i64 x48.1.Sensor, .int .i64 x48.1.Time, .int .i64 x48.1.Span.Low, .int .i64 x48.1.Span.High]) rfl (getO_N rfl rfl) rfl ta_46 ts_46 rfl rfl rfl) rfl ?_
                        refine vops_rd (rd_neqV (tab := eqTab) eqTab_ok rfl rfl eqg_46 rfl) rfl ?_
                        refine vops_rd (rd_mvB rfl) rfl ?_
                        refine vops_take rfl (congrArg PV.bool c55) ?_
                        refine vops_rd (rd_mvI rfl) rfl ?_
                        refine vops_take rfl (congrArg PV.bool c55) ?_
                        refine vops_rd (rd_mvI rfl) rfl ?_
                        refine vops_take rfl (congrArg PV.bool c55) ?_
                        refine vops_rd (rd_neq rfl rfl) rfl ?_
                        refine vops_rd (rd_pickF (congrArg PV.bool c55) rfl) rfl ?_
                        refine vops_rd (rd_mvB rfl) rfl ?_
                        refine vops_take rfl (congrArg PV.bool c56) ?_
                        refine vops_rd (rd_loadN (ds := [.int .i64 x50.1.Sensor, .int .i64 x50.1.Time, .int .i64 x50.1.Span.Low, .int .i64 x50.1.Span.High]) rfl (getO_N rfl rfl) rfl ta_46 ts_46 rfl rfl rfl) rfl ?_
                        refine vops_take rfl (congrArg PV.bool c56) ?_
                        refine vops_rd (rd_loadN (ds := [.int .i64 x52.1.Sensor, .int .i64 x52.1.Time, .int .i64 x52.1.Span.Low, .int .i64 x52.1.Span.High]) rfl (getO_N rfl rfl) rfl ta_46 ts_46 rfl rfl rfl) rfl ?_
                        refine vops_take rfl (congrArg PV.bool c56) ?_
                        refine vops_rd (rd_neqV (tab := eqTab) eqTab_ok rfl rfl eqg_46 rfl) rfl ?_
                        refine vops_rd (rd_pickF (congrArg PV.bool c56) rfl) rfl ?_
                        refine vops_rd (rd_mvB rfl) rfl ?_
                        refine vops_skip rfl rfl (neT c57) rfl ?_
                        refine vops_skip rfl rfl (neT c57) rfl ?_
                        refine vops_skip rfl rfl (neT c57) rfl ?_
                        refine vops_rd (rd_pickT (congrArg PV.bool c57) rfl) rfl ?_
                        refine vops_nil ?_
                        obtain rfl := Option.some.inj hF
                        refine onlyE ?_
                        exact weak_pick rfl [(0, 0)] (by decide) ⟨rn_low rfl (.vs _ _), rn_low rfl (.int _ _), rn_low rfl (.vs _ _), rn_low rfl (.int _ _), rn_ptr 0 0 rfl rfl, rn_low rfl (.vs _ _), rn_low rfl (.int _ _), rn_low rfl (.int _ _), rn_low rfl (.vs _ _), rn_low rfl (.int _ _), rn_low rfl (.int _ _), rn_low rfl (.bool _), trivial⟩ ⟨⟨_, rfl, rfl, .same _ _ _ _ (ltObj_es ⟨(lt_agg ⟨.int _ _, .int _ _, .vs _ _, trivial⟩), trivial⟩)⟩, trivial⟩
                      · have hF := bifF c57 hF
                        refine vops_rd (rd_loadN (ds := [.int .i64 x46.1.Sensor, .int .i64 x46.1.Time, .int .i64 x46.1.Span.Low, .int .i64 x46.1.Span.High]) rfl (getO_N rfl rfl) rfl ta_46 ts_46 rfl rfl rfl) rfl ?_
                        refine vops_rd (rd_loadN (ds := [.int .i64 x48.1.Sensor, .int .i64 x48.1.Time, .int .i64 x48.1.Span.Low, .int .i64 x48.1.Span.High]) rfl (getO_N rfl rfl) rfl ta_46 ts_46 rfl rfl rfl) rfl ?_
                        refine vops_rd (rd_neqV (tab := eqTab) eqTab_ok rfl rfl eqg_46 rfl) rfl ?_
                        refine vops_rd (rd_mvB rfl) rfl ?_
                        refine vops_take rfl (congrArg PV.bool c55) ?_
                        refine vops_rd (rd_mvI rfl) rfl ?_
                        refine vops_take rfl (congrArg PV.bool c55) ?_
                        refine vops_rd (rd_mvI rfl) rfl ?_
                        refine vops_take rfl (congrArg PV.bool c55) ?_
                        refine vops_rd (rd_neq rfl rfl) rfl ?_
                        refine vops_rd (rd_pickF (congrArg PV.bool c55) rfl) rfl ?_
                        refine vops_rd (rd_mvB rfl) rfl ?_
                        refine vops_take rfl (congrArg PV.bool c56) ?_
                        refine vops_rd (rd_loadN (ds := [.int .i64 x50.1.Sensor, .int .i64 x50.1.Time, .int .i64 x50.1.Span.Low, .int .i64 x50.1.Span.High]) rfl (getO_N rfl rfl) rfl ta_46 ts_46 rfl rfl rfl) rfl ?_
                        refine vops_take rfl (congrArg PV.bool c56) ?_
                        refine vops_rd (rd_loadN (ds := [.int .i64 x52.1.Sensor, .int .i64 x52.1.Time, .int .i64 x52.1.Span.Low, .int .i64 x52.1.Span.High]) rfl (getO_N rfl rfl) rfl ta_46 ts_46 rfl rfl rfl) rfl ?_
                        refine vops_take rfl (congrArg PV.bool c56) ?_
                        refine vops_rd (rd_neqV (tab := eqTab) eqTab_ok rfl rfl eqg_46 rfl) rfl ?_
                        refine vops_rd (rd_pickF (congrArg PV.bool c56) rfl) rfl ?_
                        refine vops_rd (rd_mvB rfl) rfl ?_
                        refine vops_take rfl (congrArg PV.bool c57) ?_
                        refine vops_rd (rd_mvI rfl) rfl ?_
                        refine vops_take rfl (congrArg PV.bool c57) ?_
                        refine vops_rd (rd_mvI rfl) rfl ?_
                        refine vops_take rfl (congrArg PV.bool c57) ?_
                        refine vops_rd (rd_neq rfl rfl) rfl ?_
                        refine vops_rd (rd_pickF (congrArg PV.bool c57) rfl) rfl ?_
                        refine vops_nil ?_
                        obtain rfl := Option.some.inj hF
                        refine onlyE ?_
                        exact weak_pick rfl [(0, 0)] (by decide) ⟨rn_low rfl (.vs _ _), rn_low rfl (.int _ _), rn_low rfl (.vs _ _), rn_low rfl (.int _ _), rn_ptr 0 0 rfl rfl, rn_low rfl (.vs _ _), rn_low rfl (.int _ _), rn_low rfl (.int _ _), rn_low rfl (.vs _ _), rn_low rfl (.int _ _), rn_low rfl (.int _ _), rn_low rfl (.bool _), trivial⟩ ⟨⟨_, rfl, rfl, .same _ _ _ _ (ltObj_es ⟨(lt_agg ⟨.int _ _, .int _ _, .vs _ _, trivial⟩), trivial⟩)⟩, trivial⟩
                · rintro _ _ _ _ ⟨rfl, hw⟩
                  refine ⟨_, _, _, hw, ?_⟩
                  refine vwp_cond rfl (fun c58 => ?_) (fun c58 => ?_)
                  · have hF := bifT c58 hF
                    refine vwp_seq ?_
                    refine vwp_region ?_
                    refine vops_rd (rd_asB rfl) rfl ?_
                    refine vops_nil ?_
                    refine vwp_ret ?_
                    obtain rfl := Option.some.inj hF
                    refine onlyE ?_
                    exact weak_pick rfl [] (by decide) ⟨rn_low rfl (.bool _), trivial⟩ trivial
                  · have hF := bifF c58 hF
                    refine vwp_skip ?_
                    refine vwp_region ?_
                    refine vops_rd (rd_add rfl rfl rfl) rfl ?_
                    refine vops_rd (rd_mvI rfl) rfl ?_
                    refine vops_nil ?_
                    obtain rfl := Option.some.inj hF
                    refine onlyE ?_
                    exact weak_sub ⟨rfl, rfl, rfl, rfl, rfl, rfl, rfl, rfl, rfl, rfl, rfl, trivial⟩
              · have hF := bifF c43 hF
                refine vwp_exit ?_
                obtain rfl := Option.some.inj hF
                refine onlyE ?_
                exact weak_pick rfl [] (by decide) ⟨rn_low rfl (.vs _ _), rn_low rfl (.int _ _), rn_low rfl (.vs _ _), rn_low rfl (.int _ _), rn_low rfl (.vs _ _), rn_low rfl (.int _ _), rn_low rfl (.int _ _), trivial⟩ trivial
            · rcases o40 with j41 | j42
              · replace hF := elimL hF
                rintro _ _ _ _ ⟨rfl, hw⟩
                refine ⟨_, _, _, hw, ?_⟩
                obtain rfl := Option.some.inj hF
                refine onlyE ?_
                exact weak_sub ⟨rfl, trivial⟩
              · replace hF := elimR hF
                rintro _ _ _ _ ⟨rfl, hw⟩
                refine ⟨_, _, _, hw, ?_⟩
                refine vwp_region ?_
                refine vops_rd (rd_add rfl rfl rfl) rfl ?_
                refine vops_rd (rd_mvI rfl) rfl ?_
                refine vops_nil ?_
                obtain rfl := Option.some.inj hF
                refine onlyE ?_
                exact weak_sub ⟨rfl, rfl, rfl, rfl, rfl, rfl, rfl, trivial⟩
          · have hF := bifF c36 hF
            refine vwp_exit ?_
            obtain rfl := Option.some.inj hF
            refine onlyE ?_
            exact weak_sub trivial
        · rcases o33 with j34 | j35
          · replace hF := elimL hF
            rintro _ _ _ _ ⟨rfl, hw⟩
            refine ⟨_, _, _, hw, ?_⟩
            obtain rfl := Option.some.inj hF
            refine fnR ?_
            exact weak_sub ⟨rfl, trivial⟩
          · replace hF := elimR hF
            rintro _ _ _ _ ⟨rfl, hw⟩
            refine ⟨_, _, _, hw, ?_⟩
            refine vwp_seq ?_
            refine vwp_region ?_
            obtain ⟨x59, h60, hF⟩ := bnd hF
            refine vops_efE (vef_callP rfl Try.call13 (F_law05_awake_ok h60 _)) rfl ?_
            refine vops_rd (rd_asB rfl) rfl ?_
            refine vops_nil ?_
            refine vwp_ret ?_
            obtain rfl := Option.some.inj hF
            refine fnR ?_
            exact weak_sub ⟨rfl, trivial⟩
  · rintro _ _ _ _ ⟨he, hw⟩
    refine ⟨_, _, _, hw, ?_⟩
    exact bodyQ_pure he [.bool r] ⟨rfl, trivial⟩ (.bool _) ⟨rfl, rfl⟩

end Go.Proofs.Ytlkgcbmodajikaa
