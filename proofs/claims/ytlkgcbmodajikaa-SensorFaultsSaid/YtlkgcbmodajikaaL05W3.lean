/- Printed by wip/lift/lift.py: the walks that show that the program computes them. -/
import Derived.Test.YtlkgcbmodajikaaL05W2
namespace Go.Proofs.Ytlkgcbmodajikaa
open Go Go.Aml Go.L
attribute [local irreducible] VRd VEf VOp VOps VWp DOps
set_option linter.unusedVariables false
set_option maxHeartbeats 4000000

theorem F_law05_SensorTrue_ok {p0 : List Int} {p1 : Int} {p2 : Int} {p3 : Int} {r : Bool} (hF : F_law05_SensorTrue p0 p1 p2 p3 = some r) (low : List AObj) :
    VCalls Try.prog 6 [.vs 1 (List.map (PV.int .u8) p0), .int .u16 p1, .int .i64 p2, .int .u8 p3] low fun x low' => x = .bool r ∧ low' = low := by
  refine vcalls_of_body (nt := 102) (rs := [.tmp 8]) Try.func6 rfl rfl (Nat.le_of_ble_eq_true rfl) rfl ?_
  refine vwp_monoW (Q' := FnE (fun E' lw lc => Weak E' lw lc [(8, .bool r)] low [])) ?_ ?_
  · unfold F_law05_SensorTrue at hF
    refine vwp_seq ?_
    refine vwp_region ?_
    refine vops_rd (rd_asB rfl) rfl ?_
    refine vops_nil ?_
    refine vwp_seq ?_
    refine vwp_region ?_
    obtain ⟨x1, h2, hF⟩ := bnd hF
    refine vops_rd (rd_mvV rfl) rfl ?_
    refine vops_efE (vef_callN (r := .ptr (low.length + 0) 0 0 0) (os := [⟨64, 2, [.agg [.vs 1 (List.map (PV.int .u8) x1.l), .int .i64 x1.at_]], 0⟩]) rfl Try.call17 (F_draw_New_ok h2 _ (len_app rfl rfl))) rfl ?_
    refine vops_rd (rd_asP rfl) rfl ?_
    refine vops_nil ?_
    refine vwp_seq ?_
    refine vwp_region ?_
    obtain ⟨x3, h4, hF⟩ := bnd hF
    refine vops_rd (rd_mvP rfl) rfl ?_
    refine vops_efE (vef_callMN (k := 0) (loc1 := [⟨64, 2, [.agg [.vs 1 (List.map (PV.int .u8) x3.1.l), .int .i64 x3.1.at_]], 0⟩]) rfl rfl Try.call18 (F_draw_Codes_Sensor_ok h4 (get_N rfl rfl)) rfl) rfl ?_
    refine vops_efE (vef_allocN rfl rfl tz_24 rfl rfl (Nat.succ_pos _) rfl) rfl ?_
    refine vops_efE (vef_store (p := .agg [.int .i64 x3.2.Address, .int .i64 x3.2.Kind, .int .i64 x3.2.Target, .int .i64 x3.2.Offset, .int .i64 x3.2.Scale, .int .i64 x3.2.Error, .int .i64 x3.2.Drift, .int .i64 x3.2.Life]) (e' := .agg [.int .i64 x3.2.Address, .int .i64 x3.2.Kind, .int .i64 x3.2.Target, .int .i64 x3.2.Offset, .int .i64 x3.2.Scale, .int .i64 x3.2.Error, .int .i64 x3.2.Drift, .int .i64 x3.2.Life]) rfl (getO_N rfl rfl) rfl rfl ts_24 rfl (nt_ne rfl) rfl (Nat.le_of_ble_eq_true rfl) rfl (setO_N rfl rfl)) rfl ?_
    refine vops_nil ?_
    refine vwp_seq ?_
    refine vwp_region ?_
    obtain ⟨x5, h6, hF⟩ := bnd hF
    refine vops_rd (rd_loadN (ds := [.int .i64 x3.2.Address, .int .i64 x3.2.Kind, .int .i64 x3.2.Target, .int .i64 x3.2.Offset, .int .i64 x3.2.Scale, .int .i64 x3.2.Error, .int .i64 x3.2.Drift, .int .i64 x3.2.Life]) rfl (getO_N rfl rfl) rfl ta_24 ts_24 rfl rfl rfl) rfl ?_
    refine vops_rd (rd_mvI rfl) rfl ?_
    refine vops_rd (rd_conv rfl us_50 ti_3 rfl) rfl ?_
    refine vops_efE (vef_callP rfl Try.call15 (F_sensor_Value_ok h6 _)) rfl ?_
    refine vops_efE (vef_allocN rfl rfl tz_33 rfl rfl (Nat.succ_pos _) rfl) rfl ?_
    refine vops_efE (vef_store (p := .agg [.int .i64 x5.Low, .int .i64 x5.High]) (e' := .agg [.int .i64 x5.Low, .int .i64 x5.High]) rfl (getO_N rfl rfl) rfl rfl ts_33 rfl (nt_ne rfl) rfl (Nat.le_of_ble_eq_true rfl) rfl (setO_N rfl rfl)) rfl ?_
    refine vops_nil ?_
    refine vwp_seq ?_
    refine vwp_region ?_
    refine vops_rd (rd_fieldAddr rfl tf_24_3 ts_3 (by decide)) rfl ?_
    refine vops_rd (rd_load1 rfl (getO_N rfl rfl) rfl ta_3 rfl) rfl ?_
    refine vops_rd (rd_mul rfl rfl rfl) rfl ?_
    refine vops_rd (rd_fieldAddr rfl tf_24_4 ts_3 (by decide)) rfl ?_
    refine vops_rd (rd_load1 rfl (getO_N rfl rfl) rfl ta_3 rfl) rfl ?_
    refine vops_rd (rd_mvI rfl) rfl ?_
    refine vops_rd (rd_conv rfl us_50 ti_3 rfl) rfl ?_
    refine vops_rd (rd_mul rfl rfl rfl) rfl ?_
    refine vops_rd (rd_add rfl rfl rfl) rfl ?_
    refine vops_rd (rd_asI rfl) rfl ?_
    refine vops_nil ?_
    refine vwp_seq ?_
    obtain ⟨x7, h8, hF⟩ := bnd hF
    obtain ⟨x9, h10, hF⟩ := bnd hF
    refine vwp_drawn [[], [0], [], [], [3], [3, 4], [3, 4, 5], [0, 1, 2, 3, 4, 5, 6], [0, 1, 2, 3, 4, 5, 6, 7], [], [9], [0, 1, 2, 3, 4, 5, 6, 7, 8, 9, 10], [0, 1, 2, 3, 4, 5, 6, 7, 8, 9, 10, 11]] [false, false, false, false, false, false, false, false, false, false, false, false, false] [(low, [⟨64, 2, [.agg [.vs 1 (List.map (PV.int .u8) x3.1.l), .int .i64 x3.1.at_]], 0⟩, ⟨24, 8, [.agg [.int .i64 x3.2.Address, .int .i64 x3.2.Kind, .int .i64 x3.2.Target, .int .i64 x3.2.Offset, .int .i64 x3.2.Scale, .int .i64 x3.2.Error, .int .i64 x3.2.Drift, .int .i64 x3.2.Life]], 0⟩, ⟨33, 2, [.agg [.int .i64 x5.Low, .int .i64 x5.High]], 0⟩])] mixed (by kernel_rfl) rfl (lenAll (all1 rfl all0)) rfl (low, [⟨64, 2, [.agg [.vs 1 (List.map (PV.int .u8) x3.1.l), .int .i64 x3.1.at_]], 0⟩, ⟨24, 8, [.agg [.int .i64 x3.2.Address, .int .i64 x3.2.Kind, .int .i64 x3.2.Target, .int .i64 x3.2.Offset, .int .i64 x3.2.Scale, .int .i64 x3.2.Error, .int .i64 x3.2.Drift, .int .i64 x3.2.Life]], 0⟩, ⟨33, 2, [.agg [.int .i64 x5.Low, .int .i64 x5.High]], 0⟩]) rfl rfl ?_
    refine dops_rdW [(low, [⟨64, 2, [.agg [.vs 1 (List.map (PV.int .u8) x3.1.l), .int .i64 x3.1.at_]], 0⟩, ⟨24, 8, [.agg [.int .i64 x3.2.Address, .int .i64 x3.2.Kind, .int .i64 x3.2.Target, .int .i64 x3.2.Offset, .int .i64 x3.2.Scale, .int .i64 x3.2.Error, .int .i64 x3.2.Drift, .int .i64 x3.2.Life]], 0⟩, ⟨33, 2, [.agg [.int .i64 x5.Low, .int .i64 x5.High]], 0⟩])] rfl rfl (all1 (VRd.ntl (rd_mvI rfl)) all0) ?_
    refine dops_rdW [(low, [⟨64, 2, [.agg [.vs 1 (List.map (PV.int .u8) x3.1.l), .int .i64 x3.1.at_]], 0⟩, ⟨24, 8, [.agg [.int .i64 x3.2.Address, .int .i64 x3.2.Kind, .int .i64 x3.2.Target, .int .i64 x3.2.Offset, .int .i64 x3.2.Scale, .int .i64 x3.2.Error, .int .i64 x3.2.Drift, .int .i64 x3.2.Life]], 0⟩, ⟨33, 2, [.agg [.int .i64 x5.Low, .int .i64 x5.High]], 0⟩])] rfl rfl (all1 (nt_of (vef_callP rfl Try.call24 (F_ref05_Floor_ok h8 _))) all0) ?_
    refine dops_rdW [(low, [⟨64, 2, [.agg [.vs 1 (List.map (PV.int .u8) x3.1.l), .int .i64 x3.1.at_]], 0⟩, ⟨24, 8, [.agg [.int .i64 x3.2.Address, .int .i64 x3.2.Kind, .int .i64 x3.2.Target, .int .i64 x3.2.Offset, .int .i64 x3.2.Scale, .int .i64 x3.2.Error, .int .i64 x3.2.Drift, .int .i64 x3.2.Life]], 0⟩, ⟨33, 2, [.agg [.int .i64 x5.Low, .int .i64 x5.High]], 0⟩])] rfl rfl (all1 (VRd.ntl (rd_mvI rfl)) all0) ?_
    refine dops_rdW [(low, [⟨64, 2, [.agg [.vs 1 (List.map (PV.int .u8) x3.1.l), .int .i64 x3.1.at_]], 0⟩, ⟨24, 8, [.agg [.int .i64 x3.2.Address, .int .i64 x3.2.Kind, .int .i64 x3.2.Target, .int .i64 x3.2.Offset, .int .i64 x3.2.Scale, .int .i64 x3.2.Error, .int .i64 x3.2.Drift, .int .i64 x3.2.Life]], 0⟩, ⟨33, 2, [.agg [.int .i64 x5.Low, .int .i64 x5.High]], 0⟩])] rfl rfl (all1 (VRd.ntl (rd_fieldAddr rfl tf_24_5 ts_3 (by decide))) all0) ?_
    refine dops_rdW [(low, [⟨64, 2, [.agg [.vs 1 (List.map (PV.int .u8) x3.1.l), .int .i64 x3.1.at_]], 0⟩, ⟨24, 8, [.agg [.int .i64 x3.2.Address, .int .i64 x3.2.Kind, .int .i64 x3.2.Target, .int .i64 x3.2.Offset, .int .i64 x3.2.Scale, .int .i64 x3.2.Error, .int .i64 x3.2.Drift, .int .i64 x3.2.Life]], 0⟩, ⟨33, 2, [.agg [.int .i64 x5.Low, .int .i64 x5.High]], 0⟩])] rfl rfl (all1 (VRd.ntl (rd_load1 rfl (getO_N rfl rfl) rfl ta_3 rfl)) all0) ?_
    refine dops_rdW [(low, [⟨64, 2, [.agg [.vs 1 (List.map (PV.int .u8) x3.1.l), .int .i64 x3.1.at_]], 0⟩, ⟨24, 8, [.agg [.int .i64 x3.2.Address, .int .i64 x3.2.Kind, .int .i64 x3.2.Target, .int .i64 x3.2.Offset, .int .i64 x3.2.Scale, .int .i64 x3.2.Error, .int .i64 x3.2.Drift, .int .i64 x3.2.Life]], 0⟩, ⟨33, 2, [.agg [.int .i64 x5.Low, .int .i64 x5.High]], 0⟩])] rfl rfl (all1 (VRd.ntl (rd_mul rfl rfl rfl)) all0) ?_
    refine dops_rdW [(low, [⟨64, 2, [.agg [.vs 1 (List.map (PV.int .u8) x3.1.l), .int .i64 x3.1.at_]], 0⟩, ⟨24, 8, [.agg [.int .i64 x3.2.Address, .int .i64 x3.2.Kind, .int .i64 x3.2.Target, .int .i64 x3.2.Offset, .int .i64 x3.2.Scale, .int .i64 x3.2.Error, .int .i64 x3.2.Drift, .int .i64 x3.2.Life]], 0⟩, ⟨33, 2, [.agg [.int .i64 x5.Low, .int .i64 x5.High]], 0⟩])] rfl rfl (all1 (VRd.ntl (rd_add rfl rfl rfl)) all0) ?_
    refine dops_rdW [(low, [⟨64, 2, [.agg [.vs 1 (List.map (PV.int .u8) x3.1.l), .int .i64 x3.1.at_]], 0⟩, ⟨24, 8, [.agg [.int .i64 x3.2.Address, .int .i64 x3.2.Kind, .int .i64 x3.2.Target, .int .i64 x3.2.Offset, .int .i64 x3.2.Scale, .int .i64 x3.2.Error, .int .i64 x3.2.Drift, .int .i64 x3.2.Life]], 0⟩, ⟨33, 2, [.agg [.int .i64 x5.Low, .int .i64 x5.High]], 0⟩])] rfl rfl (all1 (nt_of (vef_callP rfl Try.call14 (F_draw_Mod_ok h10 _))) all0) ?_
    refine dops_rdW [(low, [⟨64, 2, [.agg [.vs 1 (List.map (PV.int .u8) x3.1.l), .int .i64 x3.1.at_]], 0⟩, ⟨24, 8, [.agg [.int .i64 x3.2.Address, .int .i64 x3.2.Kind, .int .i64 x3.2.Target, .int .i64 x3.2.Offset, .int .i64 x3.2.Scale, .int .i64 x3.2.Error, .int .i64 x3.2.Drift, .int .i64 x3.2.Life]], 0⟩, ⟨33, 2, [.agg [.int .i64 x5.Low, .int .i64 x5.High]], 0⟩])] rfl rfl (all1 (VRd.ntl (rd_add rfl rfl rfl)) all0) ?_
    refine dops_rdW [(low, [⟨64, 2, [.agg [.vs 1 (List.map (PV.int .u8) x3.1.l), .int .i64 x3.1.at_]], 0⟩, ⟨24, 8, [.agg [.int .i64 x3.2.Address, .int .i64 x3.2.Kind, .int .i64 x3.2.Target, .int .i64 x3.2.Offset, .int .i64 x3.2.Scale, .int .i64 x3.2.Error, .int .i64 x3.2.Drift, .int .i64 x3.2.Life]], 0⟩, ⟨33, 2, [.agg [.int .i64 x5.Low, .int .i64 x5.High]], 0⟩])] rfl rfl (all1 (VRd.ntl (rd_fieldAddr rfl tf_24_5 ts_3 (by decide))) all0) ?_
    refine dops_rdW [(low, [⟨64, 2, [.agg [.vs 1 (List.map (PV.int .u8) x3.1.l), .int .i64 x3.1.at_]], 0⟩, ⟨24, 8, [.agg [.int .i64 x3.2.Address, .int .i64 x3.2.Kind, .int .i64 x3.2.Target, .int .i64 x3.2.Offset, .int .i64 x3.2.Scale, .int .i64 x3.2.Error, .int .i64 x3.2.Drift, .int .i64 x3.2.Life]], 0⟩, ⟨33, 2, [.agg [.int .i64 x5.Low, .int .i64 x5.High]], 0⟩])] rfl rfl (all1 (VRd.ntl (rd_load1 rfl (getO_N rfl rfl) rfl ta_3 rfl)) all0) ?_
    refine dops_rdW [(low, [⟨64, 2, [.agg [.vs 1 (List.map (PV.int .u8) x3.1.l), .int .i64 x3.1.at_]], 0⟩, ⟨24, 8, [.agg [.int .i64 x3.2.Address, .int .i64 x3.2.Kind, .int .i64 x3.2.Target, .int .i64 x3.2.Offset, .int .i64 x3.2.Scale, .int .i64 x3.2.Error, .int .i64 x3.2.Drift, .int .i64 x3.2.Life]], 0⟩, ⟨33, 2, [.agg [.int .i64 x5.Low, .int .i64 x5.High]], 0⟩])] rfl rfl (all1 (VRd.ntl (rd_sub rfl rfl rfl)) all0) ?_
    refine dops_rdW [(low, [⟨64, 2, [.agg [.vs 1 (List.map (PV.int .u8) x3.1.l), .int .i64 x3.1.at_]], 0⟩, ⟨24, 8, [.agg [.int .i64 x3.2.Address, .int .i64 x3.2.Kind, .int .i64 x3.2.Target, .int .i64 x3.2.Offset, .int .i64 x3.2.Scale, .int .i64 x3.2.Error, .int .i64 x3.2.Drift, .int .i64 x3.2.Life]], 0⟩, ⟨33, 2, [.agg [.int .i64 x5.Low, .int .i64 x5.High]], 0⟩])] rfl rfl (all1 (VRd.ntl (rd_asI rfl)) all0) ?_
    refine dops_nil ?_
    refine vwp_seq ?_
    refine vwp_seq ?_
    obtain ⟨o11, ho11, hF⟩ := bnd hF
    refine vwp_monoW (Q' := (fun o11 => OnlyE .normal (fun E' lw lc => Weak E' lw lc [(1, .int .u16 p1), (3, .int .u8 p3), (10, .ptr (low.length + 0) 0 0 0), (11, .ptr (low.length + 1) 0 0 0), (13, .int .i64 (IntKind.i64.wrap ((IntKind.i64.wrap (x7 + x9)) - x3.2.Error))), (62, .bool o11)] low [⟨24, 8, [.agg [.int .i64 x3.2.Address, .int .i64 x3.2.Kind, .int .i64 x3.2.Target, .int .i64 x3.2.Offset, .int .i64 x3.2.Scale, .int .i64 x3.2.Error, .int .i64 x3.2.Drift, .int .i64 x3.2.Life]], 0⟩, ⟨33, 2, [.agg [.int .i64 x5.Low, .int .i64 x5.High]], 0⟩])) o11) ?_ ?_
    · replace hF := ho11
      refine vwp_region ?_
      rcases Bool.eq_false_or_eq_true (decide ((IntKind.i64.wrap (1000 * x3.2.Error)) < (IntKind.i64.wrap ((IntKind.i64.wrap (1000 * (IntKind.i64.wrap ((IntKind.i64.wrap (x7 + x9)) - x3.2.Error)))) - (IntKind.i64.wrap ((IntKind.i64.wrap (1000 * x3.2.Offset)) + (IntKind.i64.wrap (x3.2.Scale * (IntKind.i64.wrap p1))))))))) with c12 | c12
      · have hF := bifT c12 hF
        refine vops_rd (rd_mvI rfl) rfl ?_
        refine vops_rd (rd_mul rfl rfl rfl) rfl ?_
        refine vops_rd (rd_mvI rfl) rfl ?_
        refine vops_rd (rd_sub rfl rfl rfl) rfl ?_
        refine vops_rd (rd_fieldAddr rfl tf_24_5 ts_3 (by decide)) rfl ?_
        refine vops_rd (rd_load1 rfl (getO_N rfl rfl) rfl ta_3 rfl) rfl ?_
        refine vops_rd (rd_mul rfl rfl rfl) rfl ?_
        refine vops_rd (rd_gtr rfl rfl) rfl ?_
        refine vops_rd (rd_mvB rfl) rfl ?_
        refine vops_skip rfl rfl (neT c12) rfl ?_
        refine vops_skip rfl rfl (neT c12) rfl ?_
        refine vops_skip rfl rfl (neT c12) rfl ?_
        refine vops_skip rfl rfl (neT c12) rfl ?_
        refine vops_skip rfl rfl (neT c12) rfl ?_
        refine vops_skip rfl rfl (neT c12) rfl ?_
        refine vops_skip rfl rfl (neT c12) rfl ?_
        refine vops_skip rfl rfl (neT c12) rfl ?_
        refine vops_rd (rd_pickT (congrArg PV.bool c12) rfl) rfl ?_
        refine vops_nil ?_
        obtain rfl := Option.some.inj hF
        refine onlyE ?_
        exact weak_pick rfl [(1, 0), (2, 0)] (by decide) ⟨rn_low rfl (.int _ _), rn_low rfl (.int _ _), rn_ptr 0 1 rfl rfl, rn_ptr 1 2 rfl rfl, rn_low rfl (.int _ _), rn_low rfl (.bool _), trivial⟩ ⟨⟨_, rfl, rfl, .same _ _ _ _ (ltObj_es ⟨(lt_agg ⟨.int _ _, .int _ _, .int _ _, .int _ _, .int _ _, .int _ _, .int _ _, .int _ _, trivial⟩), trivial⟩)⟩, ⟨_, rfl, rfl, .same _ _ _ _ (ltObj_es ⟨(lt_agg ⟨.int _ _, .int _ _, trivial⟩), trivial⟩)⟩, trivial⟩
      · have hF := bifF c12 hF
        refine vops_rd (rd_mvI rfl) rfl ?_
        refine vops_rd (rd_mul rfl rfl rfl) rfl ?_
        refine vops_rd (rd_mvI rfl) rfl ?_
        refine vops_rd (rd_sub rfl rfl rfl) rfl ?_
        refine vops_rd (rd_fieldAddr rfl tf_24_5 ts_3 (by decide)) rfl ?_
        refine vops_rd (rd_load1 rfl (getO_N rfl rfl) rfl ta_3 rfl) rfl ?_
        refine vops_rd (rd_mul rfl rfl rfl) rfl ?_
        refine vops_rd (rd_gtr rfl rfl) rfl ?_
        refine vops_rd (rd_mvB rfl) rfl ?_
        refine vops_take rfl (congrArg PV.bool c12) ?_
        refine vops_rd (rd_mvI rfl) rfl ?_
        refine vops_take rfl (congrArg PV.bool c12) ?_
        refine vops_rd (rd_mvI rfl) rfl ?_
        refine vops_take rfl (congrArg PV.bool c12) ?_
        refine vops_rd (rd_mul rfl rfl rfl) rfl ?_
        refine vops_take rfl (congrArg PV.bool c12) ?_
        refine vops_rd (rd_sub rfl rfl rfl) rfl ?_
        refine vops_take rfl (congrArg PV.bool c12) ?_
        refine vops_rd (rd_fieldAddr rfl tf_24_5 ts_3 (by decide)) rfl ?_
        refine vops_take rfl (congrArg PV.bool c12) ?_
        refine vops_rd (rd_load1 rfl (getO_N rfl rfl) rfl ta_3 rfl) rfl ?_
        refine vops_take rfl (congrArg PV.bool c12) ?_
        refine vops_rd (rd_mul rfl rfl rfl) rfl ?_
        refine vops_take rfl (congrArg PV.bool c12) ?_
        refine vops_rd (rd_gtr rfl rfl) rfl ?_
        refine vops_rd (rd_pickF (congrArg PV.bool c12) rfl) rfl ?_
        refine vops_nil ?_
        obtain rfl := Option.some.inj hF
        refine onlyE ?_
        exact weak_pick rfl [(1, 0), (2, 0)] (by decide) ⟨rn_low rfl (.int _ _), rn_low rfl (.int _ _), rn_ptr 0 1 rfl rfl, rn_ptr 1 2 rfl rfl, rn_low rfl (.int _ _), rn_low rfl (.bool _), trivial⟩ ⟨⟨_, rfl, rfl, .same _ _ _ _ (ltObj_es ⟨(lt_agg ⟨.int _ _, .int _ _, .int _ _, .int _ _, .int _ _, .int _ _, .int _ _, .int _ _, trivial⟩), trivial⟩)⟩, ⟨_, rfl, rfl, .same _ _ _ _ (ltObj_es ⟨(lt_agg ⟨.int _ _, .int _ _, trivial⟩), trivial⟩)⟩, trivial⟩
    · rintro _ _ _ _ ⟨rfl, hw⟩
      refine ⟨_, _, _, hw, ?_⟩
      refine vwp_cond rfl (fun c13 => ?_) (fun c13 => ?_)
      · have hF := bifT c13 hF
        refine vwp_seq ?_
        refine vwp_region ?_
        obtain ⟨x14, h15, hF⟩ := bnd hF
        refine vops_efE (vef_callP rfl Try.call13 (F_law05_awake_ok h15 _)) rfl ?_
        refine vops_rd (rd_asB rfl) rfl ?_
        refine vops_nil ?_
        refine vwp_ret ?_
        obtain rfl := Option.some.inj hF
        refine fnR ?_
        exact weak_pick rfl [] (by decide) ⟨rn_low rfl (.bool _), trivial⟩ trivial
      · have hF := bifF c13 hF
        refine vwp_skip ?_
        refine vwp_seq ?_
        refine vwp_region ?_
        refine vops_rd (rd_loadN (ds := [.int .i64 x3.2.Address, .int .i64 x3.2.Kind, .int .i64 x3.2.Target, .int .i64 x3.2.Offset, .int .i64 x3.2.Scale, .int .i64 x3.2.Error, .int .i64 x3.2.Drift, .int .i64 x3.2.Life]) rfl (getO_N rfl rfl) rfl ta_24 ts_24 rfl rfl rfl) rfl ?_
        refine vops_efE (vef_allocN rfl rfl tz_24 rfl rfl (Nat.succ_pos _) rfl) rfl ?_
        refine vops_efE (vef_store (p := .agg [.int .i64 x3.2.Address, .int .i64 x3.2.Kind, .int .i64 x3.2.Target, .int .i64 x3.2.Offset, .int .i64 x3.2.Scale, .int .i64 x3.2.Error, .int .i64 x3.2.Drift, .int .i64 x3.2.Life]) (e' := .agg [.int .i64 x3.2.Address, .int .i64 x3.2.Kind, .int .i64 x3.2.Target, .int .i64 x3.2.Offset, .int .i64 x3.2.Scale, .int .i64 x3.2.Error, .int .i64 x3.2.Drift, .int .i64 x3.2.Life]) rfl (getO_N rfl rfl) rfl rfl ts_24 rfl (nt_ne rfl) rfl (Nat.le_of_ble_eq_true rfl) rfl (setO_N rfl rfl)) rfl ?_
        refine vops_nil ?_
        refine vwp_seq ?_
        refine vwp_region ?_
        refine vops_rd (rd_fieldAddr rfl tf_24_5 ts_3 (by decide)) rfl ?_
        refine vops_rd (rd_load1 rfl (getO_N rfl rfl) rfl ta_3 rfl) rfl ?_
        refine vops_rd (rd_mvI rfl) rfl ?_
        refine vops_rd (rd_conv rfl us_5 ti_3 rfl) rfl ?_
        refine vops_rd (rd_add rfl rfl rfl) rfl ?_
        refine vops_rd (rd_fieldAddr rfl tf_24_5 ts_3 (by decide)) rfl ?_
        refine vops_efE (vef_store (p := .int .i64 (IntKind.i64.wrap (x3.2.Error + (IntKind.i64.wrap p3)))) (e' := .agg [.int .i64 x3.2.Address, .int .i64 x3.2.Kind, .int .i64 x3.2.Target, .int .i64 x3.2.Offset, .int .i64 x3.2.Scale, .int .i64 (IntKind.i64.wrap (x3.2.Error + (IntKind.i64.wrap p3))), .int .i64 x3.2.Drift, .int .i64 x3.2.Life]) rfl (getO_N rfl rfl) rfl rfl ts_3 rfl (nt_ne rfl) rfl (Nat.le_of_ble_eq_true rfl) rfl (setO_N rfl rfl)) rfl ?_
        refine vops_nil ?_
        refine vwp_seq ?_
        refine vwp_region ?_
        obtain ⟨x16, h17, hF⟩ := bnd hF
        refine vops_rd (rd_loadN (ds := [.int .i64 x3.2.Address, .int .i64 x3.2.Kind, .int .i64 x3.2.Target, .int .i64 x3.2.Offset, .int .i64 x3.2.Scale, .int .i64 (IntKind.i64.wrap (x3.2.Error + (IntKind.i64.wrap p3))), .int .i64 x3.2.Drift, .int .i64 x3.2.Life]) rfl (getO_N rfl rfl) rfl ta_24 ts_24 rfl rfl rfl) rfl ?_
        refine vops_rd (rd_mvI rfl) rfl ?_
        refine vops_rd (rd_conv rfl us_50 ti_3 rfl) rfl ?_
        refine vops_efE (vef_callP rfl Try.call15 (F_sensor_Value_ok h17 _)) rfl ?_
        refine vops_efE (vef_allocN rfl rfl tz_33 rfl rfl (Nat.succ_pos _) rfl) rfl ?_
        refine vops_efE (vef_store (p := .agg [.int .i64 x16.Low, .int .i64 x16.High]) (e' := .agg [.int .i64 x16.Low, .int .i64 x16.High]) rfl (getO_N rfl rfl) rfl rfl ts_33 rfl (nt_ne rfl) rfl (Nat.le_of_ble_eq_true rfl) rfl (setO_N rfl rfl)) rfl ?_
        refine vops_nil ?_
        refine vwp_seq ?_
        refine vwp_region ?_
        rcases Bool.eq_false_or_eq_true (decide (x5.Low ≤ (IntKind.i64.wrap ((IntKind.i64.wrap (x7 + x9)) - x3.2.Error)))) with c18 | c18
        · have hF := bifT c18 hF
          rcases Bool.eq_false_or_eq_true (decide ((IntKind.i64.wrap ((IntKind.i64.wrap (x7 + x9)) - x3.2.Error)) ≤ x5.High)) with c19 | c19
          · have hF := bifT c19 hF
            rcases Bool.eq_false_or_eq_true (decide (x16.Low ≤ x5.Low)) with c20 | c20
            · have hF := bifT c20 hF
              rcases Bool.eq_false_or_eq_true (decide (x5.High ≤ x16.High)) with c21 | c21
              · have hF := bifT c21 hF
                obtain ⟨x22, h23, hF⟩ := bnd hF
                refine vops_rd (rd_fieldAddr rfl tf_33_0 ts_3 (by decide)) rfl ?_
                refine vops_rd (rd_load1 rfl (getO_N rfl rfl) rfl ta_3 rfl) rfl ?_
                refine vops_rd (rd_mvI rfl) rfl ?_
                refine vops_rd (rd_leq rfl rfl) rfl ?_
                refine vops_rd (rd_mvB rfl) rfl ?_
                refine vops_take rfl (congrArg PV.bool c18) ?_
                refine vops_rd (rd_mvI rfl) rfl ?_
                refine vops_take rfl (congrArg PV.bool c18) ?_
                refine vops_rd (rd_fieldAddr rfl tf_33_1 ts_3 (by decide)) rfl ?_
                refine vops_take rfl (congrArg PV.bool c18) ?_
                refine vops_rd (rd_load1 rfl (getO_N rfl rfl) rfl ta_3 rfl) rfl ?_
                refine vops_take rfl (congrArg PV.bool c18) ?_
                refine vops_rd (rd_leq rfl rfl) rfl ?_
                refine vops_rd (rd_pickT (congrArg PV.bool c18) rfl) rfl ?_
                refine vops_rd (rd_mvB rfl) rfl ?_
                refine vops_take rfl (congrArg PV.bool c19) ?_
                refine vops_rd (rd_fieldAddr rfl tf_33_0 ts_3 (by decide)) rfl ?_
                refine vops_take rfl (congrArg PV.bool c19) ?_
                refine vops_rd (rd_load1 rfl (getO_N rfl rfl) rfl ta_3 rfl) rfl ?_
                refine vops_take rfl (congrArg PV.bool c19) ?_
                refine vops_rd (rd_fieldAddr rfl tf_33_0 ts_3 (by decide)) rfl ?_
                refine vops_take rfl (congrArg PV.bool c19) ?_
                refine vops_rd (rd_load1 rfl (getO_N rfl rfl) rfl ta_3 rfl) rfl ?_
                refine vops_take rfl (congrArg PV.bool c19) ?_
                refine vops_rd (rd_leq rfl rfl) rfl ?_
                refine vops_rd (rd_pickT (congrArg PV.bool c19) rfl) rfl ?_
                refine vops_rd (rd_mvB rfl) rfl ?_
                refine vops_take rfl (congrArg PV.bool c20) ?_
                refine vops_rd (rd_fieldAddr rfl tf_33_1 ts_3 (by decide)) rfl ?_
                refine vops_take rfl (congrArg PV.bool c20) ?_
                refine vops_rd (rd_load1 rfl (getO_N rfl rfl) rfl ta_3 rfl) rfl ?_
                refine vops_take rfl (congrArg PV.bool c20) ?_
                refine vops_rd (rd_fieldAddr rfl tf_33_1 ts_3 (by decide)) rfl ?_
                refine vops_take rfl (congrArg PV.bool c20) ?_
                refine vops_rd (rd_load1 rfl (getO_N rfl rfl) rfl ta_3 rfl) rfl ?_
                refine vops_take rfl (congrArg PV.bool c20) ?_
                refine vops_rd (rd_geq rfl rfl) rfl ?_
                refine vops_rd (rd_pickT (congrArg PV.bool c20) rfl) rfl ?_
                refine vops_rd (rd_mvB rfl) rfl ?_
                refine vops_take rfl (congrArg PV.bool c21) ?_
                refine vops_efE (vef_callP rfl Try.call13 (F_law05_awake_ok h23 _)) rfl ?_
                refine vops_rd (rd_pickT (congrArg PV.bool c21) rfl) rfl ?_
                refine vops_rd (rd_asB rfl) rfl ?_
                refine vops_nil ?_
                refine vwp_ret ?_
                obtain rfl := Option.some.inj hF
                refine fnR ?_
                exact weak_pick rfl [] (by decide) ⟨rn_low rfl (.bool _), trivial⟩ trivial
              · have hF := bifF c21 hF
                refine vops_rd (rd_fieldAddr rfl tf_33_0 ts_3 (by decide)) rfl ?_
                refine vops_rd (rd_load1 rfl (getO_N rfl rfl) rfl ta_3 rfl) rfl ?_
                refine vops_rd (rd_mvI rfl) rfl ?_
                refine vops_rd (rd_leq rfl rfl) rfl ?_
                refine vops_rd (rd_mvB rfl) rfl ?_
                refine vops_take rfl (congrArg PV.bool c18) ?_
                refine vops_rd (rd_mvI rfl) rfl ?_
                refine vops_take rfl (congrArg PV.bool c18) ?_
                refine vops_rd (rd_fieldAddr rfl tf_33_1 ts_3 (by decide)) rfl ?_
                refine vops_take rfl (congrArg PV.bool c18) ?_
                refine vops_rd (rd_load1 rfl (getO_N rfl rfl) rfl ta_3 rfl) rfl ?_
                refine vops_take rfl (congrArg PV.bool c18) ?_
                refine vops_rd (rd_leq rfl rfl) rfl ?_
                refine vops_rd (rd_pickT (congrArg PV.bool c18) rfl) rfl ?_
                refine vops_rd (rd_mvB rfl) rfl ?_
                refine vops_take rfl (congrArg PV.bool c19) ?_
                refine vops_rd (rd_fieldAddr rfl tf_33_0 ts_3 (by decide)) rfl ?_
                refine vops_take rfl (congrArg PV.bool c19) ?_
                refine vops_rd (rd_load1 rfl (getO_N rfl rfl) rfl ta_3 rfl) rfl ?_
                refine vops_take rfl (congrArg PV.bool c19) ?_
                refine vops_rd (rd_fieldAddr rfl tf_33_0 ts_3 (by decide)) rfl ?_
                refine vops_take rfl (congrArg PV.bool c19) ?_
                refine vops_rd (rd_load1 rfl (getO_N rfl rfl) rfl ta_3 rfl) rfl ?_
                refine vops_take rfl (congrArg PV.bool c19) ?_
                refine vops_rd (rd_leq rfl rfl) rfl ?_
                refine vops_rd (rd_pickT (congrArg PV.bool c19) rfl) rfl ?_
                refine vops_rd (rd_mvB rfl) rfl ?_
                refine vops_take rfl (congrArg PV.bool c20) ?_
                refine vops_rd (rd_fieldAddr rfl tf_33_1 ts_3 (by decide)) rfl ?_
                refine vops_take rfl (congrArg PV.bool c20) ?_
                refine vops_rd (rd_load1 rfl (getO_N rfl rfl) rfl ta_3 rfl) rfl ?_
                refine vops_take rfl (congrArg PV.bool c20) ?_
                refine vops_rd (rd_fieldAddr rfl tf_33_1 ts_3 (by decide)) rfl ?_
                refine vops_take rfl (congrArg PV.bool c20) ?_
                refine vops_rd (rd_load1 rfl (getO_N rfl rfl) rfl ta_3 rfl) rfl ?_
                refine vops_take rfl (congrArg PV.bool c20) ?_
                refine vops_rd (rd_geq rfl rfl) rfl ?_
                refine vops_rd (rd_pickT (congrArg PV.bool c20) rfl) rfl ?_
                refine vops_rd (rd_mvB rfl) rfl ?_
                refine vops_skip rfl rfl (neF c21) rfl ?_
                refine vops_rd (rd_pickF (congrArg PV.bool c21) rfl) rfl ?_
                refine vops_rd (rd_asB rfl) rfl ?_
                refine vops_nil ?_
                refine vwp_ret ?_
                obtain rfl := Option.some.inj hF
                refine fnR ?_
                exact weak_pick rfl [] (by decide) ⟨rn_low rfl (.bool _), trivial⟩ trivial
            · have hF := bifF c20 hF
              refine vops_rd (rd_fieldAddr rfl tf_33_0 ts_3 (by decide)) rfl ?_
              refine vops_rd (rd_load1 rfl (getO_N rfl rfl) rfl ta_3 rfl) rfl ?_
              refine vops_rd (rd_mvI rfl) rfl ?_
              refine vops_rd (rd_leq rfl rfl) rfl ?_
              refine vops_rd (rd_mvB rfl) rfl ?_
              refine vops_take rfl (congrArg PV.bool c18) ?_
              refine vops_rd (rd_mvI rfl) rfl ?_
              refine vops_take rfl (congrArg PV.bool c18) ?_
              refine vops_rd (rd_fieldAddr rfl tf_33_1 ts_3 (by decide)) rfl ?_
              refine vops_take rfl (congrArg PV.bool c18) ?_
              refine vops_rd (rd_load1 rfl (getO_N rfl rfl) rfl ta_3 rfl) rfl ?_
              refine vops_take rfl (congrArg PV.bool c18) ?_
              refine vops_rd (rd_leq rfl rfl) rfl ?_
              refine vops_rd (rd_pickT (congrArg PV.bool c18) rfl) rfl ?_
              refine vops_rd (rd_mvB rfl) rfl ?_
              refine vops_take rfl (congrArg PV.bool c19) ?_
              refine vops_rd (rd_fieldAddr rfl tf_33_0 ts_3 (by decide)) rfl ?_
              refine vops_take rfl (congrArg PV.bool c19) ?_
              refine vops_rd (rd_load1 rfl (getO_N rfl rfl) rfl ta_3 rfl) rfl ?_
              refine vops_take rfl (congrArg PV.bool c19) ?_
              refine vops_rd (rd_fieldAddr rfl tf_33_0 ts_3 (by decide)) rfl ?_
              refine vops_take rfl (congrArg PV.bool c19) ?_
              refine vops_rd (rd_load1 rfl (getO_N rfl rfl) rfl ta_3 rfl) rfl ?_
              refine vops_take rfl (congrArg PV.bool c19) ?_
              refine vops_rd (rd_leq rfl rfl) rfl ?_
              refine vops_rd (rd_pickT (congrArg PV.bool c19) rfl) rfl ?_
              refine vops_rd (rd_mvB rfl) rfl ?_
              refine vops_skip rfl rfl (neF c20) rfl ?_
              refine vops_skip rfl rfl (neF c20) rfl ?_
              refine vops_skip rfl rfl (neF c20) rfl ?_
              refine vops_skip rfl rfl (neF c20) rfl ?_
              refine vops_skip rfl rfl (neF c20) rfl ?_
              refine vops_rd (rd_pickF (congrArg PV.bool c20) rfl) rfl ?_
              refine vops_rd (rd_mvB rfl) rfl ?_
              refine vops_skip rfl rfl (by decide) rfl ?_
              refine vops_rd (rd_pickF rfl rfl) rfl ?_
              refine vops_rd (rd_asB rfl) rfl ?_
              refine vops_nil ?_
              refine vwp_ret ?_
              obtain rfl := Option.some.inj hF
              refine fnR ?_
              exact weak_pick rfl [] (by decide) ⟨rn_low rfl (.bool _), trivial⟩ trivial
          · have hF := bifF c19 hF
            refine vops_rd (rd_fieldAddr rfl tf_33_0 ts_3 (by decide)) rfl ?_
            refine vops_rd (rd_load1 rfl (getO_N rfl rfl) rfl ta_3 rfl) rfl ?_
            refine vops_rd (rd_mvI rfl) rfl ?_
            refine vops_rd (rd_leq rfl rfl) rfl ?_
            refine vops_rd (rd_mvB rfl) rfl ?_
            refine vops_take rfl (congrArg PV.bool c18) ?_
            refine vops_rd (rd_mvI rfl) rfl ?_
            refine vops_take rfl (congrArg PV.bool c18) ?_
            refine vops_rd (rd_fieldAddr rfl tf_33_1 ts_3 (by decide)) rfl ?_
            refine vops_take rfl (congrArg PV.bool c18) ?_
            refine vops_rd (rd_load1 rfl (getO_N rfl rfl) rfl ta_3 rfl) rfl ?_
            refine vops_take rfl (congrArg PV.bool c18) ?_
            refine vops_rd (rd_leq rfl rfl) rfl ?_
            refine vops_rd (rd_pickT (congrArg PV.bool c18) rfl) rfl ?_
            refine vops_rd (rd_mvB rfl) rfl ?_
            refine vops_skip rfl rfl (neF c19) rfl ?_
            refine vops_skip rfl rfl (neF c19) rfl ?_
            refine vops_skip rfl rfl (neF c19) rfl ?_
            refine vops_skip rfl rfl (neF c19) rfl ?_
            refine vops_skip rfl rfl (neF c19) rfl ?_
            refine vops_rd (rd_pickF (congrArg PV.bool c19) rfl) rfl ?_
            refine vops_rd (rd_mvB rfl) rfl ?_
            refine vops_skip rfl rfl (by decide) rfl ?_
            refine vops_skip rfl rfl (by decide) rfl ?_
            refine vops_skip rfl rfl (by decide) rfl ?_
            refine vops_skip rfl rfl (by decide) rfl ?_
            refine vops_skip rfl rfl (by decide) rfl ?_
            refine vops_rd (rd_pickF rfl rfl) rfl ?_
            refine vops_rd (rd_mvB rfl) rfl ?_
            refine vops_skip rfl rfl (by decide) rfl ?_
            refine vops_rd (rd_pickF rfl rfl) rfl ?_
            refine vops_rd (rd_asB rfl) rfl ?_
            refine vops_nil ?_
            refine vwp_ret ?_
            obtain rfl := Option.some.inj hF
            refine fnR ?_
            exact weak_pick rfl [] (by decide) ⟨rn_low rfl (.bool _), trivial⟩ trivial
        · have hF := bifF c18 hF
          refine vops_rd (rd_fieldAddr rfl tf_33_0 ts_3 (by decide)) rfl ?_
          refine vops_rd (rd_load1 rfl (getO_N rfl rfl) rfl ta_3 rfl) rfl ?_
          refine vops_rd (rd_mvI rfl) rfl ?_
          refine vops_rd (rd_leq rfl rfl) rfl ?_
          refine vops_rd (rd_mvB rfl) rfl ?_
          refine vops_skip rfl rfl (neF c18) rfl ?_
          refine vops_skip rfl rfl (neF c18) rfl ?_
          refine vops_skip rfl rfl (neF c18) rfl ?_
          refine vops_skip rfl rfl (neF c18) rfl ?_
          refine vops_rd (rd_pickF (congrArg PV.bool c18) rfl) rfl ?_
          refine vops_rd (rd_mvB rfl) rfl ?_
          refine vops_skip rfl rfl (by decide) rfl ?_
          refine vops_skip rfl rfl (by decide) rfl ?_
          refine vops_skip rfl rfl (by decide) rfl ?_
          refine vops_skip rfl rfl (by decide) rfl ?_
          refine vops_skip rfl rfl (by decide) rfl ?_
          refine vops_rd (rd_pickF rfl rfl) rfl ?_
          refine vops_rd (rd_mvB rfl) rfl ?_
          refine vops_skip rfl rfl (by decide) rfl ?_
          refine vops_skip rfl rfl (by decide) rfl ?_
          refine vops_skip rfl rfl (by decide) rfl ?_
          refine vops_skip rfl rfl (by decide) rfl ?_
          refine vops_skip rfl rfl (by decide) rfl ?_
          refine vops_rd (rd_pickF rfl rfl) rfl ?_
          refine vops_rd (rd_mvB rfl) rfl ?_
          refine vops_skip rfl rfl (by decide) rfl ?_
          refine vops_rd (rd_pickF rfl rfl) rfl ?_
          refine vops_rd (rd_asB rfl) rfl ?_
          refine vops_nil ?_
          refine vwp_ret ?_
          obtain rfl := Option.some.inj hF
          refine fnR ?_
          exact weak_pick rfl [] (by decide) ⟨rn_low rfl (.bool _), trivial⟩ trivial
  · rintro _ _ _ _ ⟨he, hw⟩
    refine ⟨_, _, _, hw, ?_⟩
    exact bodyQ_pure he [.bool r] ⟨rfl, trivial⟩ (.bool _) ⟨rfl, rfl⟩

theorem F_law05_SensorFaults_ok {p0 : List Int} {p1 : Int} {p2 : Int} {r : Bool} (hF : F_law05_SensorFaults p0 p1 p2 = some r) (low : List AObj) :
    VCalls Try.prog 7 [.vs 1 (List.map (PV.int .u8) p0), .int .u16 p1, .int .u8 p2] low fun x low' => x = .bool r ∧ low' = low := by
  refine vcalls_of_body (nt := 82) (rs := [.tmp 6]) Try.func7 rfl rfl (Nat.le_of_ble_eq_true rfl) rfl ?_
  refine vwp_monoW (Q' := FnE (fun E' lw lc => Weak E' lw lc [(6, .bool r)] low [])) ?_ ?_
  · unfold F_law05_SensorFaults at hF
    refine vwp_seq ?_
    refine vwp_region ?_
    refine vops_rd (rd_asB rfl) rfl ?_
    refine vops_nil ?_
    refine vwp_seq ?_
    refine vwp_region ?_
    obtain ⟨x1, h2, hF⟩ := bnd hF
    refine vops_rd (rd_mvV rfl) rfl ?_
    refine vops_efE (vef_callN (r := .ptr (low.length + 0) 0 0 0) (os := [⟨64, 2, [.agg [.vs 1 (List.map (PV.int .u8) x1.l), .int .i64 x1.at_]], 0⟩]) rfl Try.call17 (F_draw_New_ok h2 _ (len_app rfl rfl))) rfl ?_
    refine vops_rd (rd_asP rfl) rfl ?_
    refine vops_nil ?_
    refine vwp_seq ?_
    refine vwp_region ?_
    refine vops_rd (rd_mvI rfl) rfl ?_
    refine vops_rd (rd_conv rfl us_5 ti_3 rfl) rfl ?_
    refine vops_rd (rd_rem rfl rfl (by decide) rfl) rfl ?_
    refine vops_rd (rd_add rfl rfl rfl) rfl ?_
    refine vops_rd (rd_asI rfl) rfl ?_
    refine vops_nil ?_
    refine vwp_seq ?_
    refine vwp_region ?_
    obtain ⟨x3, h4, hF⟩ := bnd hF
    refine vops_efE (vef_litF (es := List.map (PV.int .i64) [1, 2, 5]) ⟨rfl, rfl, rfl, rfl, rfl, rfl, trivial⟩ rfl rfl (nt_all rfl) te_52 ts_3 tz_3 rfl rfl (Nat.succ_pos _) (by decide) (lt_map (fun _ => .int _ _))) rfl ?_
    refine vops_rd (rd_mvI rfl) rfl ?_
    refine vops_rd (rd_conv rfl us_5 ti_3 rfl) rfl ?_
    refine vops_rd (rd_rem rfl rfl (by decide) rfl) rfl ?_
    refine vops_rd (rd_to (rd_ixV rfl rfl h4 te_52 ts_3) (v' := .vptr [.int .i64 x3] 0) rfl) rfl ?_
    refine vops_rd (rd_loadV1 rfl ta_3 rfl) rfl ?_
    refine vops_rd (rd_asI rfl) rfl ?_
    refine vops_nil ?_
    refine vwp_seq ?_
    refine vwp_region ?_
    obtain ⟨x5, h6, hF⟩ := bnd hF
    refine vops_rd (rd_mvP rfl) rfl ?_
    refine vops_rd (rd_mvI rfl) rfl ?_
    refine vops_efE (vef_callMN (k := 0) (loc1 := [⟨64, 2, [.agg [.vs 1 (List.map (PV.int .u8) x5.1.l), .int .i64 x5.1.at_]], 0⟩]) rfl rfl Try.call18 (F_draw_Codes_Sensor_ok h6 (get_N rfl rfl)) rfl) rfl ?_
    refine vops_efE (vef_allocN rfl rfl tz_24 rfl rfl (Nat.succ_pos _) rfl) rfl ?_
    refine vops_efE (vef_store (p := .agg [.int .i64 x5.2.Address, .int .i64 x5.2.Kind, .int .i64 x5.2.Target, .int .i64 x5.2.Offset, .int .i64 x5.2.Scale, .int .i64 x5.2.Error, .int .i64 x5.2.Drift, .int .i64 x5.2.Life]) (e' := .agg [.int .i64 x5.2.Address, .int .i64 x5.2.Kind, .int .i64 x5.2.Target, .int .i64 x5.2.Offset, .int .i64 x5.2.Scale, .int .i64 x5.2.Error, .int .i64 x5.2.Drift, .int .i64 x5.2.Life]) rfl (getO_N rfl rfl) rfl rfl ts_24 rfl (nt_ne rfl) rfl (Nat.le_of_ble_eq_true rfl) rfl (setO_N rfl rfl)) rfl ?_
    refine vops_nil ?_
    refine vwp_seq ?_
    refine vwp_region ?_
    obtain ⟨x7, h8, hF⟩ := bnd hF
    refine vops_rd (rd_loadN (ds := [.int .i64 x5.2.Address, .int .i64 x5.2.Kind, .int .i64 x5.2.Target, .int .i64 x5.2.Offset, .int .i64 x5.2.Scale, .int .i64 x5.2.Error, .int .i64 x5.2.Drift, .int .i64 x5.2.Life]) rfl (getO_N rfl rfl) rfl ta_24 ts_24 rfl rfl rfl) rfl ?_
    refine vops_efE (vef_litF (es := List.map T_Sensor.enc [x5.2]) ⟨rfl, rfl, trivial⟩ rfl rfl (nt_all rfl) te_31 ts_24 tz_24 rfl rfl (Nat.succ_pos _) (by decide) (lt_map T_Sensor.enc_lt)) rfl ?_
    refine vops_rd (rd_nc (rd_build (vs := [(0, .int .i64 5), (1, .int .i64 2)]) (ds := [.int .i64 5, .int .i64 2, .nils]) tz_37 rfl rfl tp_37 ⟨rfl, rfl, rfl, rfl, trivial⟩ (nt_all2 rfl) rfl) (nc_agg (cs := [.int .i64 5, .int .i64 2, .nils]) (ds := [.int .i64 5, .int .i64 2, .vs 1 (List.map (PV.int .u8) ([] : List Int))]) rfl rfl ⟨nc_eq rfl, nc_eq rfl, nc_nil rfl rfl, trivial⟩)) rfl ?_
    refine vops_efE (vef_callP rfl Try.call22 (F_sensor_Decode_ok h8 _)) rfl ?_
    refine vops_rd (rd_mvT rfl) rfl ?_
    refine vops_rd (rd_extract rfl rfl) rfl ?_
    refine vops_rd (rd_extract rfl rfl) rfl ?_
    refine vops_efE (vef_allocN rfl rfl tz_46 rfl rfl (Nat.succ_pos _) rfl) rfl ?_
    refine vops_efE (vef_store (p := .agg [.int .i64 x7.1.Sensor, .int .i64 x7.1.Time, .int .i64 x7.1.Span.Low, .int .i64 x7.1.Span.High]) (e' := .agg [.int .i64 x7.1.Sensor, .int .i64 x7.1.Time, .int .i64 x7.1.Span.Low, .int .i64 x7.1.Span.High]) rfl (getO_N rfl rfl) rfl rfl ts_46 rfl (nt_ne rfl) rfl (Nat.le_of_ble_eq_true rfl) rfl (setO_N rfl rfl)) rfl ?_
    refine vops_rd (rd_asI rfl) rfl ?_
    refine vops_nil ?_
    refine vwp_seq ?_
    refine vwp_region ?_
    obtain ⟨x9, h10, hF⟩ := bnd hF
    refine vops_rd (rd_loadN (ds := [.int .i64 x5.2.Address, .int .i64 x5.2.Kind, .int .i64 x5.2.Target, .int .i64 x5.2.Offset, .int .i64 x5.2.Scale, .int .i64 x5.2.Error, .int .i64 x5.2.Drift, .int .i64 x5.2.Life]) rfl (getO_N rfl rfl) rfl ta_24 ts_24 rfl rfl rfl) rfl ?_
    refine vops_efE (vef_litF (es := List.map T_Sensor.enc [x5.2]) ⟨rfl, rfl, trivial⟩ rfl rfl (nt_all rfl) te_31 ts_24 tz_24 rfl rfl (Nat.succ_pos _) (by decide) (lt_map T_Sensor.enc_lt)) rfl ?_
    refine vops_rd (rd_mvI rfl) rfl ?_
    refine vops_rd (rd_shrC (c := 256) rfl rfl (by decide) rfl (by decide)) rfl ?_
    refine vops_rd (rd_conv rfl us_50 ti_5 rfl) rfl ?_
    refine vops_rd (rd_mvI rfl) rfl ?_
    refine vops_rd (rd_conv rfl us_50 ti_5 rfl) rfl ?_
    refine vops_efE (vef_litF (es := List.map (PV.int .u8) [(IntKind.u8.wrap (p1 / 256)), (IntKind.u8.wrap p1)]) ⟨rfl, rfl, rfl, rfl, trivial⟩ rfl rfl (nt_all rfl) te_22 ts_5 tz_5 rfl rfl (Nat.succ_pos _) (by decide) (lt_map (fun _ => .int _ _))) rfl ?_
    refine vops_rd (rd_build (vs := [(0, .int .i64 5), (1, .int .i64 1), (2, .vs 1 (List.map (PV.int .u8) [(IntKind.u8.wrap (p1 / 256)), (IntKind.u8.wrap p1)]))]) (ds := [.int .i64 5, .int .i64 1, .vs 1 (List.map (PV.int .u8) [(IntKind.u8.wrap (p1 / 256)), (IntKind.u8.wrap p1)])]) tz_37 rfl rfl tp_37 ⟨rfl, rfl, rfl, rfl, rfl, rfl, trivial⟩ (nt_all2 rfl) rfl) rfl ?_
    refine vops_efE (vef_callP rfl Try.call22 (F_sensor_Decode_ok h10 _)) rfl ?_
    refine vops_rd (rd_mvT rfl) rfl ?_
    refine vops_rd (rd_extract rfl rfl) rfl ?_
    refine vops_rd (rd_extract rfl rfl) rfl ?_
    refine vops_efE (vef_allocN rfl rfl tz_46 rfl rfl (Nat.succ_pos _) rfl) rfl ?_
    refine vops_efE (vef_store (p := .agg [.int .i64 x9.1.Sensor, .int .i64 x9.1.Time, .int .i64 x9.1.Span.Low, .int .i64 x9.1.Span.High]) (e' := .agg [.int .i64 x9.1.Sensor, .int .i64 x9.1.Time, .int .i64 x9.1.Span.Low, .int .i64 x9.1.Span.High]) rfl (getO_N rfl rfl) rfl rfl ts_46 rfl (nt_ne rfl) rfl (Nat.le_of_ble_eq_true rfl) rfl (setO_N rfl rfl)) rfl ?_
    refine vops_rd (rd_asI rfl) rfl ?_
    refine vops_nil ?_
    refine vwp_seq ?_
    refine vwp_region ?_
    refine vops_rd (rd_mvI rfl) rfl ?_
    refine vops_rd (rd_conv rfl us_50 ti_3 rfl) rfl ?_
    refine vops_rd (rd_mvI rfl) rfl ?_
    refine vops_rd (rd_conv rfl us_50 ti_3 rfl) rfl ?_
    refine vops_rd (rd_build (vs := [(0, .int .i64 (IntKind.i64.wrap p1)), (1, .int .i64 (IntKind.i64.wrap p1))]) (ds := [.int .i64 (IntKind.i64.wrap p1), .int .i64 (IntKind.i64.wrap p1)]) tz_33 rfl rfl tp_33 ⟨rfl, rfl, rfl, rfl, trivial⟩ (nt_all2 rfl) rfl) rfl ?_
    refine vops_efE (vef_allocN rfl rfl tz_33 rfl rfl (Nat.succ_pos _) rfl) rfl ?_
    refine vops_efE (vef_store (p := .agg [.int .i64 (IntKind.i64.wrap p1), .int .i64 (IntKind.i64.wrap p1)]) (e' := .agg [.int .i64 (IntKind.i64.wrap p1), .int .i64 (IntKind.i64.wrap p1)]) rfl (getO_N rfl rfl) rfl rfl ts_33 rfl (nt_ne rfl) rfl (Nat.le_of_ble_eq_true rfl) rfl (setO_N rfl rfl)) rfl ?_
    refine vops_nil ?_
    refine vwp_seq ?_
    refine vwp_seq ?_
    refine vwp_region ?_
    refine vops_rd (rd_mvI rfl) rfl ?_
    refine vops_rd (rd_conv rfl us_50 ti_3 rfl) rfl ?_
    refine vops_rd (rd_mvI rfl) rfl ?_
    refine vops_rd (rd_gtr rfl rfl) rfl ?_
    refine vops_nil ?_
    obtain ⟨o11, ho11, hF⟩ := bnd hF
    refine vwp_monoW (Q' := (fun o11 => OnlyE .normal (fun E' lw lc => Weak E' lw lc [(11, .ptr (low.length + 0) 0 0 0), (12, .int .i64 x7.2), (13, .ptr (low.length + 1) 0 0 0), (14, .int .i64 x9.2), (15, .ptr (low.length + 2) 0 0 0)] low [⟨46, 4, [.agg [.int .i64 x7.1.Sensor, .int .i64 x7.1.Time, .int .i64 x7.1.Span.Low, .int .i64 x7.1.Span.High]], 0⟩, ⟨46, 4, [.agg [.int .i64 x9.1.Sensor, .int .i64 x9.1.Time, .int .i64 x9.1.Span.Low, .int .i64 x9.1.Span.High]], 0⟩, ⟨33, 2, [.agg [.int .i64 o11.Low, .int .i64 o11.High]], 0⟩])) o11) ?_ ?_
    · replace hF := ho11
      refine vwp_cond rfl (fun c12 => ?_) (fun c12 => ?_)
      · have hF := bifT c12 hF
        refine vwp_region ?_
        obtain ⟨x13, h14, hF⟩ := bnd hF
        refine vops_efE (vef_callP rfl Try.call25 (F_sensor_Nothing_ok h14 _)) rfl ?_
        refine vops_efE (vef_store (p := .agg [.int .i64 x13.Low, .int .i64 x13.High]) (e' := .agg [.int .i64 x13.Low, .int .i64 x13.High]) rfl (getO_N rfl rfl) rfl rfl ts_33 rfl (nt_ne rfl) rfl (Nat.le_of_ble_eq_true rfl) rfl (setO_N rfl rfl)) rfl ?_
        refine vops_nil ?_
        obtain rfl := Option.some.inj hF
        refine onlyE ?_
        exact weak_pick rfl [(2, 0), (3, 0), (4, 0)] (by decide) ⟨rn_ptr 0 2 rfl rfl, rn_low rfl (.int _ _), rn_ptr 1 3 rfl rfl, rn_low rfl (.int _ _), rn_ptr 2 4 rfl rfl, trivial⟩ ⟨⟨_, rfl, rfl, .same _ _ _ _ (ltObj_es ⟨(lt_agg ⟨.int _ _, .int _ _, .int _ _, .int _ _, trivial⟩), trivial⟩)⟩, ⟨_, rfl, rfl, .same _ _ _ _ (ltObj_es ⟨(lt_agg ⟨.int _ _, .int _ _, .int _ _, .int _ _, trivial⟩), trivial⟩)⟩, ⟨_, rfl, rfl, .same _ _ _ _ (ltObj_es ⟨(lt_agg ⟨.int _ _, .int _ _, trivial⟩), trivial⟩)⟩, trivial⟩
      · have hF := bifF c12 hF
        refine vwp_skip ?_
        obtain rfl := Option.some.inj hF
        refine onlyE ?_
        exact weak_pick rfl [(2, 0), (3, 0), (4, 0)] (by decide) ⟨rn_ptr 0 2 rfl rfl, rn_low rfl (.int _ _), rn_ptr 1 3 rfl rfl, rn_low rfl (.int _ _), rn_ptr 2 4 rfl rfl, trivial⟩ ⟨⟨_, rfl, rfl, .same _ _ _ _ (ltObj_es ⟨(lt_agg ⟨.int _ _, .int _ _, .int _ _, .int _ _, trivial⟩), trivial⟩)⟩, ⟨_, rfl, rfl, .same _ _ _ _ (ltObj_es ⟨(lt_agg ⟨.int _ _, .int _ _, .int _ _, .int _ _, trivial⟩), trivial⟩)⟩, ⟨_, rfl, rfl, .same _ _ _ _ (ltObj_es ⟨(lt_agg ⟨.int _ _, .int _ _, trivial⟩), trivial⟩)⟩, trivial⟩
    · rintro _ _ _ _ ⟨rfl, hw⟩
      refine ⟨_, _, _, hw, ?_⟩
      refine vwp_seq ?_
      rcases Bool.eq_false_or_eq_true (decide (x7.2 = 0)) with c15 | c15
      · have hF := bifT c15 hF
        rcases Bool.eq_false_or_eq_true (decide (x9.2 = 0)) with c16 | c16
        · have hF := bifT c16 hF
          obtain ⟨x17, h18, hF⟩ := bnd hF
          rcases Bool.eq_false_or_eq_true ((x7.1.Span.Low == x17.Low) && ((x7.1.Span.High == x17.High) && true)) with c19 | c19
          · have hF := bifT c19 hF
            rcases Bool.eq_false_or_eq_true ((x9.1.Span.Low == o11.Low) && ((x9.1.Span.High == o11.High) && true)) with c20 | c20
            · have hF := bifT c20 hF
              obtain ⟨x21, h22, hF⟩ := bnd hF
              refine vwp_drawn [[], [0], [0, 1], [0, 1, 2], [0, 1, 2, 3], [0, 1, 2, 3, 4], [0, 1, 2, 3, 4, 5], [0, 1, 2, 3, 4, 5, 6], [0, 1, 2, 3, 4, 5, 6, 7], [0, 1, 2, 3, 4, 5, 6], [0, 1, 2, 3, 4, 5, 6, 7, 8, 9], [0, 1, 2, 3, 4, 5, 6, 7, 8, 9, 10], [0, 1, 2, 3, 4, 5, 6, 7, 8, 9, 10, 11], [0, 1, 2, 3, 4, 5, 6, 7, 8, 9, 10, 11, 12], [0, 1, 2, 3, 4, 5, 6, 7, 8, 9, 10, 11, 12, 13], [0, 1, 2, 3, 4, 5, 6, 7, 8, 9, 10, 11, 12], [0, 1, 2, 3, 4, 5, 6, 7, 8, 9, 10, 11, 12, 13, 14, 15], [0, 1, 2, 3, 4, 5, 6, 7, 8, 9, 10, 11, 12, 13, 14, 15, 16], [0, 1, 2, 3, 4, 5, 6, 7, 8, 9, 10, 11, 12, 13, 14, 15, 16, 17], [0, 1, 2, 3, 4, 5, 6, 7, 8, 9, 10, 11, 12, 13, 14, 15, 16, 17, 18], [0, 1, 2, 3, 4, 5, 6, 7, 8, 9, 10, 11, 12, 13, 14, 15, 16, 17, 18, 19], [0, 1, 2, 3, 4, 5, 6, 7, 8, 9, 10, 11, 12, 13, 14, 15, 16, 17, 18, 19, 20]] [false, false, false, false, false, false, false, false, false, false, false, false, false, false, false, false, false, false, false, false, false, false] [(low, [⟨46, 4, [.agg [.int .i64 x7.1.Sensor, .int .i64 x7.1.Time, .int .i64 x7.1.Span.Low, .int .i64 x7.1.Span.High]], 0⟩, ⟨46, 4, [.agg [.int .i64 x9.1.Sensor, .int .i64 x9.1.Time, .int .i64 x9.1.Span.Low, .int .i64 x9.1.Span.High]], 0⟩, ⟨33, 2, [.agg [.int .i64 o11.Low, .int .i64 o11.High]], 0⟩])] mixed (by kernel_rfl) rfl (lenAll (all1 rfl all0)) rfl (low, [⟨46, 4, [.agg [.int .i64 x7.1.Sensor, .int .i64 x7.1.Time, .int .i64 x7.1.Span.Low, .int .i64 x7.1.Span.High]], 0⟩, ⟨46, 4, [.agg [.int .i64 x9.1.Sensor, .int .i64 x9.1.Time, .int .i64 x9.1.Span.Low, .int .i64 x9.1.Span.High]], 0⟩, ⟨33, 2, [.agg [.int .i64 o11.Low, .int .i64 o11.High]], 0⟩]) rfl rfl ?_
              refine dops_rdW [(low, [⟨46, 4, [.agg [.int .i64 x7.1.Sensor, .int .i64 x7.1.Time, .int .i64 x7.1.Span.Low, .int .i64 x7.1.Span.High]], 0⟩, ⟨46, 4, [.agg [.int .i64 x9.1.Sensor, .int .i64 x9.1.Time, .int .i64 x9.1.Span.Low, .int .i64 x9.1.Span.High]], 0⟩, ⟨33, 2, [.agg [.int .i64 o11.Low, .int .i64 o11.High]], 0⟩])] rfl rfl (all1 (VRd.ntl (rd_mvI rfl)) all0) ?_
              refine dops_rdW [(low, [⟨46, 4, [.agg [.int .i64 x7.1.Sensor, .int .i64 x7.1.Time, .int .i64 x7.1.Span.Low, .int .i64 x7.1.Span.High]], 0⟩, ⟨46, 4, [.agg [.int .i64 x9.1.Sensor, .int .i64 x9.1.Time, .int .i64 x9.1.Span.Low, .int .i64 x9.1.Span.High]], 0⟩, ⟨33, 2, [.agg [.int .i64 o11.Low, .int .i64 o11.High]], 0⟩])] rfl rfl (all1 (VRd.ntl (rd_eql rfl rfl)) all0) ?_
              refine dops_rdW [(low, [⟨46, 4, [.agg [.int .i64 x7.1.Sensor, .int .i64 x7.1.Time, .int .i64 x7.1.Span.Low, .int .i64 x7.1.Span.High]], 0⟩, ⟨46, 4, [.agg [.int .i64 x9.1.Sensor, .int .i64 x9.1.Time, .int .i64 x9.1.Span.Low, .int .i64 x9.1.Span.High]], 0⟩, ⟨33, 2, [.agg [.int .i64 o11.Low, .int .i64 o11.High]], 0⟩])] rfl rfl (all1 (VRd.ntl (rd_mvB rfl)) all0) ?_
              refine dops_takeW [(low, [⟨46, 4, [.agg [.int .i64 x7.1.Sensor, .int .i64 x7.1.Time, .int .i64 x7.1.Span.Low, .int .i64 x7.1.Span.High]], 0⟩, ⟨46, 4, [.agg [.int .i64 x9.1.Sensor, .int .i64 x9.1.Time, .int .i64 x9.1.Span.Low, .int .i64 x9.1.Span.High]], 0⟩, ⟨33, 2, [.agg [.int .i64 o11.Low, .int .i64 o11.High]], 0⟩])] rfl rfl rfl (congrArg PV.bool c15) (all1 (VRd.ntl (rd_mvI rfl)) all0) ?_
              refine dops_takeW [(low, [⟨46, 4, [.agg [.int .i64 x7.1.Sensor, .int .i64 x7.1.Time, .int .i64 x7.1.Span.Low, .int .i64 x7.1.Span.High]], 0⟩, ⟨46, 4, [.agg [.int .i64 x9.1.Sensor, .int .i64 x9.1.Time, .int .i64 x9.1.Span.Low, .int .i64 x9.1.Span.High]], 0⟩, ⟨33, 2, [.agg [.int .i64 o11.Low, .int .i64 o11.High]], 0⟩])] rfl rfl rfl (congrArg PV.bool c15) (all1 (VRd.ntl (rd_eql rfl rfl)) all0) ?_
              refine dops_rdW [(low, [⟨46, 4, [.agg [.int .i64 x7.1.Sensor, .int .i64 x7.1.Time, .int .i64 x7.1.Span.Low, .int .i64 x7.1.Span.High]], 0⟩, ⟨46, 4, [.agg [.int .i64 x9.1.Sensor, .int .i64 x9.1.Time, .int .i64 x9.1.Span.Low, .int .i64 x9.1.Span.High]], 0⟩, ⟨33, 2, [.agg [.int .i64 o11.Low, .int .i64 o11.High]], 0⟩])] rfl rfl (all1 (VRd.ntl (rd_pickT (congrArg PV.bool c15) rfl)) all0) ?_
              refine dops_rdW [(low, [⟨46, 4, [.agg [.int .i64 x7.1.Sensor, .int .i64 x7.1.Time, .int .i64 x7.1.Span.Low, .int .i64 x7.1.Span.High]], 0⟩, ⟨46, 4, [.agg [.int .i64 x9.1.Sensor, .int .i64 x9.1.Time, .int .i64 x9.1.Span.Low, .int .i64 x9.1.Span.High]], 0⟩, ⟨33, 2, [.agg [.int .i64 o11.Low, .int .i64 o11.High]], 0⟩])] rfl rfl (all1 (VRd.ntl (rd_mvB rfl)) all0) ?_
              refine dops_takeW [(low, [⟨46, 4, [.agg [.int .i64 x7.1.Sensor, .int .i64 x7.1.Time, .int .i64 x7.1.Span.Low, .int .i64 x7.1.Span.High]], 0⟩, ⟨46, 4, [.agg [.int .i64 x9.1.Sensor, .int .i64 x9.1.Time, .int .i64 x9.1.Span.Low, .int .i64 x9.1.Span.High]], 0⟩, ⟨33, 2, [.agg [.int .i64 o11.Low, .int .i64 o11.High]], 0⟩])] rfl rfl rfl (congrArg PV.bool c16) (all1 (VRd.ntl (rd_fieldAddr rfl tf_46_2 ts_33 (by decide))) all0) ?_
              refine dops_takeW [(low, [⟨46, 4, [.agg [.int .i64 x7.1.Sensor, .int .i64 x7.1.Time, .int .i64 x7.1.Span.Low, .int .i64 x7.1.Span.High]], 0⟩, ⟨46, 4, [.agg [.int .i64 x9.1.Sensor, .int .i64 x9.1.Time, .int .i64 x9.1.Span.Low, .int .i64 x9.1.Span.High]], 0⟩, ⟨33, 2, [.agg [.int .i64 o11.Low, .int .i64 o11.High]], 0⟩])] rfl rfl rfl (congrArg PV.bool c16) (all1 (VRd.ntl (rd_loadN (ds := [.int .i64 x7.1.Span.Low, .int .i64 x7.1.Span.High]) rfl (getO_N rfl rfl) rfl ta_33 ts_33 rfl rfl rfl)) all0) ?_
              refine dops_takeW [(low, [⟨46, 4, [.agg [.int .i64 x7.1.Sensor, .int .i64 x7.1.Time, .int .i64 x7.1.Span.Low, .int .i64 x7.1.Span.High]], 0⟩, ⟨46, 4, [.agg [.int .i64 x9.1.Sensor, .int .i64 x9.1.Time, .int .i64 x9.1.Span.Low, .int .i64 x9.1.Span.High]], 0⟩, ⟨33, 2, [.agg [.int .i64 o11.Low, .int .i64 o11.High]], 0⟩])] rfl rfl rfl (congrArg PV.bool c16) (all1 (nt_of (vef_callP rfl Try.call25 (F_sensor_Nothing_ok h18 _))) all0) ?_
              refine dops_takeW [(low, [⟨46, 4, [.agg [.int .i64 x7.1.Sensor, .int .i64 x7.1.Time, .int .i64 x7.1.Span.Low, .int .i64 x7.1.Span.High]], 0⟩, ⟨46, 4, [.agg [.int .i64 x9.1.Sensor, .int .i64 x9.1.Time, .int .i64 x9.1.Span.Low, .int .i64 x9.1.Span.High]], 0⟩, ⟨33, 2, [.agg [.int .i64 o11.Low, .int .i64 o11.High]], 0⟩])] rfl rfl rfl (congrArg PV.bool c16) (all1 (VRd.ntl (rd_eqlV (tab := eqTab) eqTab_ok rfl rfl eqg_33 rfl)) all0) ?_
              refine dops_rdW [(low, [⟨46, 4, [.agg [.int .i64 x7.1.Sensor, .int .i64 x7.1.Time, .int .i64 x7.1.Span.Low, .int .i64 x7.1.Span.High]], 0⟩, ⟨46, 4, [.agg [.int .i64 x9.1.Sensor, .int .i64 x9.1.Time, .int .i64 x9.1.Span.Low, .int .i64 x9.1.Span.High]], 0⟩, ⟨33, 2, [.agg [.int .i64 o11.Low, .int .i64 o11.High]], 0⟩])] rfl rfl (all1 (VRd.ntl (rd_pickT (congrArg PV.bool c16) rfl)) all0) ?_
              refine dops_rdW [(low, [⟨46, 4, [.agg [.int .i64 x7.1.Sensor, .int .i64 x7.1.Time, .int .i64 x7.1.Span.Low, .int .i64 x7.1.Span.High]], 0⟩, ⟨46, 4, [.agg [.int .i64 x9.1.Sensor, .int .i64 x9.1.Time, .int .i64 x9.1.Span.Low, .int .i64 x9.1.Span.High]], 0⟩, ⟨33, 2, [.agg [.int .i64 o11.Low, .int .i64 o11.High]], 0⟩])] rfl rfl (all1 (VRd.ntl (rd_mvB rfl)) all0) ?_
              refine dops_takeW [(low, [⟨46, 4, [.agg [.int .i64 x7.1.Sensor, .int .i64 x7.1.Time, .int .i64 x7.1.Span.Low, .int .i64 x7.1.Span.High]], 0⟩, ⟨46, 4, [.agg [.int .i64 x9.1.Sensor, .int .i64 x9.1.Time, .int .i64 x9.1.Span.Low, .int .i64 x9.1.Span.High]], 0⟩, ⟨33, 2, [.agg [.int .i64 o11.Low, .int .i64 o11.High]], 0⟩])] rfl rfl rfl (congrArg PV.bool c19) (all1 (VRd.ntl (rd_fieldAddr rfl tf_46_2 ts_33 (by decide))) all0) ?_
              refine dops_takeW [(low, [⟨46, 4, [.agg [.int .i64 x7.1.Sensor, .int .i64 x7.1.Time, .int .i64 x7.1.Span.Low, .int .i64 x7.1.Span.High]], 0⟩, ⟨46, 4, [.agg [.int .i64 x9.1.Sensor, .int .i64 x9.1.Time, .int .i64 x9.1.Span.Low, .int .i64 x9.1.Span.High]], 0⟩, ⟨33, 2, [.agg [.int .i64 o11.Low, .int .i64 o11.High]], 0⟩])] rfl rfl rfl (congrArg PV.bool c19) (all1 (VRd.ntl (rd_loadN (ds := [.int .i64 x9.1.Span.Low, .int .i64 x9.1.Span.High]) rfl (getO_N rfl rfl) rfl ta_33 ts_33 rfl rfl rfl)) all0) ?_
              refine dops_takeW [(low, [⟨46, 4, [.agg [.int .i64 x7.1.Sensor, .int .i64 x7.1.Time, .int .i64 x7.1.Span.Low, .int .i64 x7.1.Span.High]], 0⟩, ⟨46, 4, [.agg [.int .i64 x9.1.Sensor, .int .i64 x9.1.Time, .int .i64 x9.1.Span.Low, .int .i64 x9.1.Span.High]], 0⟩, ⟨33, 2, [.agg [.int .i64 o11.Low, .int .i64 o11.High]], 0⟩])] rfl rfl rfl (congrArg PV.bool c19) (all1 (VRd.ntl (rd_loadN (ds := [.int .i64 o11.Low, .int .i64 o11.High]) rfl (getO_N rfl rfl) rfl ta_33 ts_33 rfl rfl rfl)) all0) ?_
              refine dops_takeW [(low, [⟨46, 4, [.agg [.int .i64 x7.1.Sensor, .int .i64 x7.1.Time, .int .i64 x7.1.Span.Low, .int .i64 x7.1.Span.High]], 0⟩, ⟨46, 4, [.agg [.int .i64 x9.1.Sensor, .int .i64 x9.1.Time, .int .i64 x9.1.Span.Low, .int .i64 x9.1.Span.High]], 0⟩, ⟨33, 2, [.agg [.int .i64 o11.Low, .int .i64 o11.High]], 0⟩])] rfl rfl rfl (congrArg PV.bool c19) (all1 (VRd.ntl (rd_eqlV (tab := eqTab) eqTab_ok rfl rfl eqg_33 rfl)) all0) ?_
              refine dops_rdW [(low, [⟨46, 4, [.agg [.int .i64 x7.1.Sensor, .int .i64 x7.1.Time, .int .i64 x7.1.Span.Low, .int .i64 x7.1.Span.High]], 0⟩, ⟨46, 4, [.agg [.int .i64 x9.1.Sensor, .int .i64 x9.1.Time, .int .i64 x9.1.Span.Low, .int .i64 x9.1.Span.High]], 0⟩, ⟨33, 2, [.agg [.int .i64 o11.Low, .int .i64 o11.High]], 0⟩])] rfl rfl (all1 (VRd.ntl (rd_pickT (congrArg PV.bool c19) rfl)) all0) ?_
              refine dops_rdW [(low, [⟨46, 4, [.agg [.int .i64 x7.1.Sensor, .int .i64 x7.1.Time, .int .i64 x7.1.Span.Low, .int .i64 x7.1.Span.High]], 0⟩, ⟨46, 4, [.agg [.int .i64 x9.1.Sensor, .int .i64 x9.1.Time, .int .i64 x9.1.Span.Low, .int .i64 x9.1.Span.High]], 0⟩, ⟨33, 2, [.agg [.int .i64 o11.Low, .int .i64 o11.High]], 0⟩])] rfl rfl (all1 (VRd.ntl (rd_mvB rfl)) all0) ?_
              refine dops_takeW [(low, [⟨46, 4, [.agg [.int .i64 x7.1.Sensor, .int .i64 x7.1.Time, .int .i64 x7.1.Span.Low, .int .i64 x7.1.Span.High]], 0⟩, ⟨46, 4, [.agg [.int .i64 x9.1.Sensor, .int .i64 x9.1.Time, .int .i64 x9.1.Span.Low, .int .i64 x9.1.Span.High]], 0⟩, ⟨33, 2, [.agg [.int .i64 o11.Low, .int .i64 o11.High]], 0⟩])] rfl rfl rfl (congrArg PV.bool c20) (all1 (nt_of (vef_callP rfl Try.call13 (F_law05_awake_ok h22 _))) all0) ?_
              refine dops_rdW [(low, [⟨46, 4, [.agg [.int .i64 x7.1.Sensor, .int .i64 x7.1.Time, .int .i64 x7.1.Span.Low, .int .i64 x7.1.Span.High]], 0⟩, ⟨46, 4, [.agg [.int .i64 x9.1.Sensor, .int .i64 x9.1.Time, .int .i64 x9.1.Span.Low, .int .i64 x9.1.Span.High]], 0⟩, ⟨33, 2, [.agg [.int .i64 o11.Low, .int .i64 o11.High]], 0⟩])] rfl rfl (all1 (VRd.ntl (rd_pickT (congrArg PV.bool c20) rfl)) all0) ?_
              refine dops_rdW [(low, [⟨46, 4, [.agg [.int .i64 x7.1.Sensor, .int .i64 x7.1.Time, .int .i64 x7.1.Span.Low, .int .i64 x7.1.Span.High]], 0⟩, ⟨46, 4, [.agg [.int .i64 x9.1.Sensor, .int .i64 x9.1.Time, .int .i64 x9.1.Span.Low, .int .i64 x9.1.Span.High]], 0⟩, ⟨33, 2, [.agg [.int .i64 o11.Low, .int .i64 o11.High]], 0⟩])] rfl rfl (all1 (VRd.ntl (rd_asB rfl)) all0) ?_
              refine dops_nil ?_
              refine vwp_ret ?_
              obtain rfl := Option.some.inj hF
              refine fnR ?_
              exact weak_pick rfl [] (by decide) ⟨rn_low rfl (.bool _), trivial⟩ trivial
            · have hF := bifF c20 hF
              refine vwp_drawn [[], [0], [0, 1], [0, 1, 2], [0, 1, 2, 3], [0, 1, 2, 3, 4], [0, 1, 2, 3, 4, 5], [0, 1, 2, 3, 4, 5, 6], [0, 1, 2, 3, 4, 5, 6, 7], [0, 1, 2, 3, 4, 5, 6], [0, 1, 2, 3, 4, 5, 6, 7, 8, 9], [0, 1, 2, 3, 4, 5, 6, 7, 8, 9, 10], [0, 1, 2, 3, 4, 5, 6, 7, 8, 9, 10, 11], [0, 1, 2, 3, 4, 5, 6, 7, 8, 9, 10, 11, 12], [0, 1, 2, 3, 4, 5, 6, 7, 8, 9, 10, 11, 12, 13], [0, 1, 2, 3, 4, 5, 6, 7, 8, 9, 10, 11, 12], [0, 1, 2, 3, 4, 5, 6, 7, 8, 9, 10, 11, 12, 13, 14, 15], [0, 1, 2, 3, 4, 5, 6, 7, 8, 9, 10, 11, 12, 13, 14, 15, 16], [0, 1, 2, 3, 4, 5, 6, 7, 8, 9, 10, 11, 12, 13, 14, 15, 16, 17], [0, 1, 2, 3, 4, 5, 6, 7, 8, 9, 10, 11, 12, 13, 14, 15, 16, 17, 18], [0, 1, 2, 3, 4, 5, 6, 7, 8, 9, 10, 11, 12, 13, 14, 15, 16, 17, 18, 19], [0, 1, 2, 3, 4, 5, 6, 7, 8, 9, 10, 11, 12, 13, 14, 15, 16, 17, 18, 19, 20]] [false, false, false, false, false, false, false, false, false, false, false, false, false, false, false, false, false, false, false, false, false, false] [(low, [⟨46, 4, [.agg [.int .i64 x7.1.Sensor, .int .i64 x7.1.Time, .int .i64 x7.1.Span.Low, .int .i64 x7.1.Span.High]], 0⟩, ⟨46, 4, [.agg [.int .i64 x9.1.Sensor, .int .i64 x9.1.Time, .int .i64 x9.1.Span.Low, .int .i64 x9.1.Span.High]], 0⟩, ⟨33, 2, [.agg [.int .i64 o11.Low, .int .i64 o11.High]], 0⟩])] mixed (by kernel_rfl) rfl (lenAll (all1 rfl all0)) rfl (low, [⟨46, 4, [.agg [.int .i64 x7.1.Sensor, .int .i64 x7.1.Time, .int .i64 x7.1.Span.Low, .int .i64 x7.1.Span.High]], 0⟩, ⟨46, 4, [.agg [.int .i64 x9.1.Sensor, .int .i64 x9.1.Time, .int .i64 x9.1.Span.Low, .int .i64 x9.1.Span.High]], 0⟩, ⟨33, 2, [.agg [.int .i64 o11.Low, .int .i64 o11.High]], 0⟩]) rfl rfl ?_
              refine dops_rdW [(low, [⟨46, 4, [.agg [.int .i64 x7.1.Sensor, .int .i64 x7.1.Time, .int .i64 x7.1.Span.Low, .int .i64 x7.1.Span.High]], 0⟩, ⟨46, 4, [.agg [.int .i64 x9.1.Sensor, .int .i64 x9.1.Time, .int .i64 x9.1.Span.Low, .int .i64 x9.1.Span.High]], 0⟩, ⟨33, 2, [.agg [.int .i64 o11.Low, .int .i64 o11.High]], 0⟩])] rfl rfl (all1 (VRd.ntl (rd_mvI rfl)) all0) ?_
              refine dops_rdW [(low, [⟨46, 4, [.agg [.int .i64 x7.1.Sensor, .int .i64 x7.1.Time, .int .i64 x7.1.Span.Low, .int .i64 x7.1.Span.High]], 0⟩, ⟨46, 4, [.agg [.int .i64 x9.1.Sensor, .int .i64 x9.1.Time, .int .i64 x9.1.Span.Low, .int .i64 x9.1.Span.High]], 0⟩, ⟨33, 2, [.agg [.int .i64 o11.Low, .int .i64 o11.High]], 0⟩])] rfl rfl (all1 (VRd.ntl (rd_eql rfl rfl)) all0) ?_
              refine dops_rdW [(low, [⟨46, 4, [.agg [.int .i64 x7.1.Sensor, .int .i64 x7.1.Time, .int .i64 x7.1.Span.Low, .int .i64 x7.1.Span.High]], 0⟩, ⟨46, 4, [.agg [.int .i64 x9.1.Sensor, .int .i64 x9.1.Time, .int .i64 x9.1.Span.Low, .int .i64 x9.1.Span.High]], 0⟩, ⟨33, 2, [.agg [.int .i64 o11.Low, .int .i64 o11.High]], 0⟩])] rfl rfl (all1 (VRd.ntl (rd_mvB rfl)) all0) ?_
              refine dops_takeW [(low, [⟨46, 4, [.agg [.int .i64 x7.1.Sensor, .int .i64 x7.1.Time, .int .i64 x7.1.Span.Low, .int .i64 x7.1.Span.High]], 0⟩, ⟨46, 4, [.agg [.int .i64 x9.1.Sensor, .int .i64 x9.1.Time, .int .i64 x9.1.Span.Low, .int .i64 x9.1.Span.High]], 0⟩, ⟨33, 2, [.agg [.int .i64 o11.Low, .int .i64 o11.High]], 0⟩])] rfl rfl rfl (congrArg PV.bool c15) (all1 (VRd.ntl (rd_mvI rfl)) all0) ?_
              refine dops_takeW [(low, [⟨46, 4, [.agg [.int .i64 x7.1.Sensor, .int .i64 x7.1.Time, .int .i64 x7.1.Span.Low, .int .i64 x7.1.Span.High]], 0⟩, ⟨46, 4, [.agg [.int .i64 x9.1.Sensor, .int .i64 x9.1.Time, .int .i64 x9.1.Span.Low, .int .i64 x9.1.Span.High]], 0⟩, ⟨33, 2, [.agg [.int .i64 o11.Low, .int .i64 o11.High]], 0⟩])] rfl rfl rfl (congrArg PV.bool c15) (all1 (VRd.ntl (rd_eql rfl rfl)) all0) ?_
              refine dops_rdW [(low, [⟨46, 4, [.agg [.int .i64 x7.1.Sensor, .int .i64 x7.1.Time, .int .i64 x7.1.Span.Low, .int .i64 x7.1.Span.High]], 0⟩, ⟨46, 4, [.agg [.int .i64 x9.1.Sensor, .int .i64 x9.1.Time, .int .i64 x9.1.Span.Low, .int .i64 x9.1.Span.High]], 0⟩, ⟨33, 2, [.agg [.int .i64 o11.Low, .int .i64 o11.High]], 0⟩])] rfl rfl (all1 (VRd.ntl (rd_pickT (congrArg PV.bool c15) rfl)) all0) ?_
              refine dops_rdW [(low, [⟨46, 4, [.agg [.int .i64 x7.1.Sensor, .int .i64 x7.1.Time, .int .i64 x7.1.Span.Low, .int .i64 x7.1.Span.High]], 0⟩, ⟨46, 4, [.agg [.int .i64 x9.1.Sensor, .int .i64 x9.1.Time, .int .i64 x9.1.Span.Low, .int .i64 x9.1.Span.High]], 0⟩, ⟨33, 2, [.agg [.int .i64 o11.Low, .int .i64 o11.High]], 0⟩])] rfl rfl (all1 (VRd.ntl (rd_mvB rfl)) all0) ?_
              refine dops_takeW [(low, [⟨46, 4, [.agg [.int .i64 x7.1.Sensor, .int .i64 x7.1.Time, .int .i64 x7.1.Span.Low, .int .i64 x7.1.Span.High]], 0⟩, ⟨46, 4, [.agg [.int .i64 x9.1.Sensor, .int .i64 x9.1.Time, .int .i64 x9.1.Span.Low, .int .i64 x9.1.Span.High]], 0⟩, ⟨33, 2, [.agg [.int .i64 o11.Low, .int .i64 o11.High]], 0⟩])] rfl rfl rfl (congrArg PV.bool c16) (all1 (VRd.ntl (rd_fieldAddr rfl tf_46_2 ts_33 (by decide))) all0) ?_
              refine dops_takeW [(low, [⟨46, 4, [.agg [.int .i64 x7.1.Sensor, .int .i64 x7.1.Time, .int .i64 x7.1.Span.Low, .int .i64 x7.1.Span.High]], 0⟩, ⟨46, 4, [.agg [.int .i64 x9.1.Sensor, .int .i64 x9.1.Time, .int .i64 x9.1.Span.Low, .int .i64 x9.1.Span.High]], 0⟩, ⟨33, 2, [.agg [.int .i64 o11.Low, .int .i64 o11.High]], 0⟩])] rfl rfl rfl (congrArg PV.bool c16) (all1 (VRd.ntl (rd_loadN (ds := [.int .i64 x7.1.Span.Low, .int .i64 x7.1.Span.High]) rfl (getO_N rfl rfl) rfl ta_33 ts_33 rfl rfl rfl)) all0) ?_
              refine dops_takeW [(low, [⟨46, 4, [.agg [.int .i64 x7.1.Sensor, .int .i64 x7.1.Time, .int .i64 x7.1.Span.Low, .int .i64 x7.1.Span.High]], 0⟩, ⟨46, 4, [.agg [.int .i64 x9.1.Sensor, .int .i64 x9.1.Time, .int .i64 x9.1.Span.Low, .int .i64 x9.1.Span.High]], 0⟩, ⟨33, 2, [.agg [.int .i64 o11.Low, .int .i64 o11.High]], 0⟩])] rfl rfl rfl (congrArg PV.bool c16) (all1 (nt_of (vef_callP rfl Try.call25 (F_sensor_Nothing_ok h18 _))) all0) ?_
              refine dops_takeW [(low, [⟨46, 4, [.agg [.int .i64 x7.1.Sensor, .int .i64 x7.1.Time, .int .i64 x7.1.Span.Low, .int .i64 x7.1.Span.High]], 0⟩, ⟨46, 4, [.agg [.int .i64 x9.1.Sensor, .int .i64 x9.1.Time, .int .i64 x9.1.Span.Low, .int .i64 x9.1.Span.High]], 0⟩, ⟨33, 2, [.agg [.int .i64 o11.Low, .int .i64 o11.High]], 0⟩])] rfl rfl rfl (congrArg PV.bool c16) (all1 (VRd.ntl (rd_eqlV (tab := eqTab) eqTab_ok rfl rfl eqg_33 rfl)) all0) ?_
              refine dops_rdW [(low, [⟨46, 4, [.agg [.int .i64 x7.1.Sensor, .int .i64 x7.1.Time, .int .i64 x7.1.Span.Low, .int .i64 x7.1.Span.High]], 0⟩, ⟨46, 4, [.agg [.int .i64 x9.1.Sensor, .int .i64 x9.1.Time, .int .i64 x9.1.Span.Low, .int .i64 x9.1.Span.High]], 0⟩, ⟨33, 2, [.agg [.int .i64 o11.Low, .int .i64 o11.High]], 0⟩])] rfl rfl (all1 (VRd.ntl (rd_pickT (congrArg PV.bool c16) rfl)) all0) ?_
              refine dops_rdW [(low, [⟨46, 4, [.agg [.int .i64 x7.1.Sensor, .int .i64 x7.1.Time, .int .i64 x7.1.Span.Low, .int .i64 x7.1.Span.High]], 0⟩, ⟨46, 4, [.agg [.int .i64 x9.1.Sensor, .int .i64 x9.1.Time, .int .i64 x9.1.Span.Low, .int .i64 x9.1.Span.High]], 0⟩, ⟨33, 2, [.agg [.int .i64 o11.Low, .int .i64 o11.High]], 0⟩])] rfl rfl (all1 (VRd.ntl (rd_mvB rfl)) all0) ?_
              refine dops_takeW [(low, [⟨46, 4, [.agg [.int .i64 x7.1.Sensor, .int .i64 x7.1.Time, .int .i64 x7.1.Span.Low, .int .i64 x7.1.Span.High]], 0⟩, ⟨46, 4, [.agg [.int .i64 x9.1.Sensor, .int .i64 x9.1.Time, .int .i64 x9.1.Span.Low, .int .i64 x9.1.Span.High]], 0⟩, ⟨33, 2, [.agg [.int .i64 o11.Low, .int .i64 o11.High]], 0⟩])] rfl rfl rfl (congrArg PV.bool c19) (all1 (VRd.ntl (rd_fieldAddr rfl tf_46_2 ts_33 (by decide))) all0) ?_
              refine dops_takeW [(low, [⟨46, 4, [.agg [.int .i64 x7.1.Sensor, .int .i64 x7.1.Time, .int .i64 x7.1.Span.Low, .int .i64 x7.1.Span.High]], 0⟩, ⟨46, 4, [.agg [.int .i64 x9.1.Sensor, .int .i64 x9.1.Time, .int .i64 x9.1.Span.Low, .int .i64 x9.1.Span.High]], 0⟩, ⟨33, 2, [.agg [.int .i64 o11.Low, .int .i64 o11.High]], 0⟩])] rfl rfl rfl (congrArg PV.bool c19) (all1 (VRd.ntl (rd_loadN (ds := [.int .i64 x9.1.Span.Low, .int .i64 x9.1.Span.High]) rfl (getO_N rfl rfl) rfl ta_33 ts_33 rfl rfl rfl)) all0) ?_
              refine dops_takeW [(low, [⟨46, 4, [.agg [.int .i64 x7.1.Sensor, .int .i64 x7.1.Time, .int .i64 x7.1.Span.Low, .int .i64 x7.1.Span.High]], 0⟩, ⟨46, 4, [.agg [.int .i64 x9.1.Sensor, .int .i64 x9.1.Time, .int .i64 x9.1.Span.Low, .int .i64 x9.1.Span.High]], 0⟩, ⟨33, 2, [.agg [.int .i64 o11.Low, .int .i64 o11.High]], 0⟩])] rfl rfl rfl (congrArg PV.bool c19) (all1 (VRd.ntl (rd_loadN (ds := [.int .i64 o11.Low, .int .i64 o11.High]) rfl (getO_N rfl rfl) rfl ta_33 ts_33 rfl rfl rfl)) all0) ?_
              refine dops_takeW [(low, [⟨46, 4, [.agg [.int .i64 x7.1.Sensor, .int .i64 x7.1.Time, .int .i64 x7.1.Span.Low, .int .i64 x7.1.Span.High]], 0⟩, ⟨46, 4, [.agg [.int .i64 x9.1.Sensor, .int .i64 x9.1.Time, .int .i64 x9.1.Span.Low, .int .i64 x9.1.Span.High]], 0⟩, ⟨33, 2, [.agg [.int .i64 o11.Low, .int .i64 o11.High]], 0⟩])] rfl rfl rfl (congrArg PV.bool c19) (all1 (VRd.ntl (rd_eqlV (tab := eqTab) eqTab_ok rfl rfl eqg_33 rfl)) all0) ?_
              refine dops_rdW [(low, [⟨46, 4, [.agg [.int .i64 x7.1.Sensor, .int .i64 x7.1.Time, .int .i64 x7.1.Span.Low, .int .i64 x7.1.Span.High]], 0⟩, ⟨46, 4, [.agg [.int .i64 x9.1.Sensor, .int .i64 x9.1.Time, .int .i64 x9.1.Span.Low, .int .i64 x9.1.Span.High]], 0⟩, ⟨33, 2, [.agg [.int .i64 o11.Low, .int .i64 o11.High]], 0⟩])] rfl rfl (all1 (VRd.ntl (rd_pickT (congrArg PV.bool c19) rfl)) all0) ?_
              refine dops_rdW [(low, [⟨46, 4, [.agg [.int .i64 x7.1.Sensor, .int .i64 x7.1.Time, .int .i64 x7.1.Span.Low, .int .i64 x7.1.Span.High]], 0⟩, ⟨46, 4, [.agg [.int .i64 x9.1.Sensor, .int .i64 x9.1.Time, .int .i64 x9.1.Span.Low, .int .i64 x9.1.Span.High]], 0⟩, ⟨33, 2, [.agg [.int .i64 o11.Low, .int .i64 o11.High]], 0⟩])] rfl rfl (all1 (VRd.ntl (rd_mvB rfl)) all0) ?_
              refine dops_skip rfl rfl rfl (neF c20) ?_
              refine dops_rdW [(low, [⟨46, 4, [.agg [.int .i64 x7.1.Sensor, .int .i64 x7.1.Time, .int .i64 x7.1.Span.Low, .int .i64 x7.1.Span.High]], 0⟩, ⟨46, 4, [.agg [.int .i64 x9.1.Sensor, .int .i64 x9.1.Time, .int .i64 x9.1.Span.Low, .int .i64 x9.1.Span.High]], 0⟩, ⟨33, 2, [.agg [.int .i64 o11.Low, .int .i64 o11.High]], 0⟩])] rfl rfl (all1 (VRd.ntl (rd_pickF (congrArg PV.bool c20) rfl)) all0) ?_
              refine dops_rdW [(low, [⟨46, 4, [.agg [.int .i64 x7.1.Sensor, .int .i64 x7.1.Time, .int .i64 x7.1.Span.Low, .int .i64 x7.1.Span.High]], 0⟩, ⟨46, 4, [.agg [.int .i64 x9.1.Sensor, .int .i64 x9.1.Time, .int .i64 x9.1.Span.Low, .int .i64 x9.1.Span.High]], 0⟩, ⟨33, 2, [.agg [.int .i64 o11.Low, .int .i64 o11.High]], 0⟩])] rfl rfl (all1 (VRd.ntl (rd_asB rfl)) all0) ?_
              refine dops_nil ?_
              refine vwp_ret ?_
              obtain rfl := Option.some.inj hF
              refine fnR ?_
              exact weak_pick rfl [] (by decide) ⟨rn_low rfl (.bool _), trivial⟩ trivial
          · have hF := bifF c19 hF
            refine vwp_drawn [[], [0], [0, 1], [0, 1, 2], [0, 1, 2, 3], [0, 1, 2, 3, 4], [0, 1, 2, 3, 4, 5], [0, 1, 2, 3, 4, 5, 6], [0, 1, 2, 3, 4, 5, 6, 7], [0, 1, 2, 3, 4, 5, 6], [0, 1, 2, 3, 4, 5, 6, 7, 8, 9], [0, 1, 2, 3, 4, 5, 6, 7, 8, 9, 10], [0, 1, 2, 3, 4, 5, 6, 7, 8, 9, 10, 11], [0, 1, 2, 3, 4, 5, 6, 7, 8, 9, 10, 11, 12], [0, 1, 2, 3, 4, 5, 6, 7, 8, 9, 10, 11, 12, 13], [0, 1, 2, 3, 4, 5, 6, 7, 8, 9, 10, 11, 12], [0, 1, 2, 3, 4, 5, 6, 7, 8, 9, 10, 11, 12, 13, 14, 15], [0, 1, 2, 3, 4, 5, 6, 7, 8, 9, 10, 11, 12, 13, 14, 15, 16], [0, 1, 2, 3, 4, 5, 6, 7, 8, 9, 10, 11, 12, 13, 14, 15, 16, 17], [0, 1, 2, 3, 4, 5, 6, 7, 8, 9, 10, 11, 12, 13, 14, 15, 16, 17, 18], [0, 1, 2, 3, 4, 5, 6, 7, 8, 9, 10, 11, 12, 13, 14, 15, 16, 17, 18, 19], [0, 1, 2, 3, 4, 5, 6, 7, 8, 9, 10, 11, 12, 13, 14, 15, 16, 17, 18, 19, 20]] [false, false, false, false, false, false, false, false, false, false, false, false, false, false, false, false, false, false, false, false, false, false] [(low, [⟨46, 4, [.agg [.int .i64 x7.1.Sensor, .int .i64 x7.1.Time, .int .i64 x7.1.Span.Low, .int .i64 x7.1.Span.High]], 0⟩, ⟨46, 4, [.agg [.int .i64 x9.1.Sensor, .int .i64 x9.1.Time, .int .i64 x9.1.Span.Low, .int .i64 x9.1.Span.High]], 0⟩, ⟨33, 2, [.agg [.int .i64 o11.Low, .int .i64 o11.High]], 0⟩])] mixed (by kernel_rfl) rfl (lenAll (all1 rfl all0)) rfl (low, [⟨46, 4, [.agg [.int .i64 x7.1.Sensor, .int .i64 x7.1.Time, .int .i64 x7.1.Span.Low, .int .i64 x7.1.Span.High]], 0⟩, ⟨46, 4, [.agg [.int .i64 x9.1.Sensor, .int .i64 x9.1.Time, .int .i64 x9.1.Span.Low, .int .i64 x9.1.Span.High]], 0⟩, ⟨33, 2, [.agg [.int .i64 o11.Low, .int .i64 o11.High]], 0⟩]) rfl rfl ?_
            refine dops_rdW [(low, [⟨46, 4, [.agg [.int .i64 x7.1.Sensor, .int .i64 x7.1.Time, .int .i64 x7.1.Span.Low, .int .i64 x7.1.Span.High]], 0⟩, ⟨46, 4, [.agg [.int .i64 x9.1.Sensor, .int .i64 x9.1.Time, .int .i64 x9.1.Span.Low, .int .i64 x9.1.Span.High]], 0⟩, ⟨33, 2, [.agg [.int .i64 o11.Low, .int .i64 o11.High]], 0⟩])] rfl rfl (all1 (VRd.ntl (rd_mvI rfl)) all0) ?_
            refine dops_rdW [(low, [⟨46, 4, [.agg [.int .i64 x7.1.Sensor, .int .i64 x7.1.Time, .int .i64 x7.1.Span.Low, .int .i64 x7.1.Span.High]], 0⟩, ⟨46, 4, [.agg [.int .i64 x9.1.Sensor, .int .i64 x9.1.Time, .int .i64 x9.1.Span.Low, .int .i64 x9.1.Span.High]], 0⟩, ⟨33, 2, [.agg [.int .i64 o11.Low, .int .i64 o11.High]], 0⟩])] rfl rfl (all1 (VRd.ntl (rd_eql rfl rfl)) all0) ?_
            refine dops_rdW [(low, [⟨46, 4, [.agg [.int .i64 x7.1.Sensor, .int .i64 x7.1.Time, .int .i64 x7.1.Span.Low, .int .i64 x7.1.Span.High]], 0⟩, ⟨46, 4, [.agg [.int .i64 x9.1.Sensor, .int .i64 x9.1.Time, .int .i64 x9.1.Span.Low, .int .i64 x9.1.Span.High]], 0⟩, ⟨33, 2, [.agg [.int .i64 o11.Low, .int .i64 o11.High]], 0⟩])] rfl rfl (all1 (VRd.ntl (rd_mvB rfl)) all0) ?_
            refine dops_takeW [(low, [⟨46, 4, [.agg [.int .i64 x7.1.Sensor, .int .i64 x7.1.Time, .int .i64 x7.1.Span.Low, .int .i64 x7.1.Span.High]], 0⟩, ⟨46, 4, [.agg [.int .i64 x9.1.Sensor, .int .i64 x9.1.Time, .int .i64 x9.1.Span.Low, .int .i64 x9.1.Span.High]], 0⟩, ⟨33, 2, [.agg [.int .i64 o11.Low, .int .i64 o11.High]], 0⟩])] rfl rfl rfl (congrArg PV.bool c15) (all1 (VRd.ntl (rd_mvI rfl)) all0) ?_
            refine dops_takeW [(low, [⟨46, 4, [.agg [.int .i64 x7.1.Sensor, .int .i64 x7.1.Time, .int .i64 x7.1.Span.Low, .int .i64 x7.1.Span.High]], 0⟩, ⟨46, 4, [.agg [.int .i64 x9.1.Sensor, .int .i64 x9.1.Time, .int .i64 x9.1.Span.Low, .int .i64 x9.1.Span.High]], 0⟩, ⟨33, 2, [.agg [.int .i64 o11.Low, .int .i64 o11.High]], 0⟩])] rfl rfl rfl (congrArg PV.bool c15) (all1 (VRd.ntl (rd_eql rfl rfl)) all0) ?_
            refine dops_rdW [(low, [⟨46, 4, [.agg [.int .i64 x7.1.Sensor, .int .i64 x7.1.Time, .int .i64 x7.1.Span.Low, .int .i64 x7.1.Span.High]], 0⟩, ⟨46, 4, [.agg [.int .i64 x9.1.Sensor, .int .i64 x9.1.Time, .int .i64 x9.1.Span.Low, .int .i64 x9.1.Span.High]], 0⟩, ⟨33, 2, [.agg [.int .i64 o11.Low, .int .i64 o11.High]], 0⟩])] rfl rfl (all1 (VRd.ntl (rd_pickT (congrArg PV.bool c15) rfl)) all0) ?_
            refine dops_rdW [(low, [⟨46, 4, [.agg [.int .i64 x7.1.Sensor, .int .i64 x7.1.Time, .int .i64 x7.1.Span.Low, .int .i64 x7.1.Span.High]], 0⟩, ⟨46, 4, [.agg [.int .i64 x9.1.Sensor, .int .i64 x9.1.Time, .int .i64 x9.1.Span.Low, .int .i64 x9.1.Span.High]], 0⟩, ⟨33, 2, [.agg [.int .i64 o11.Low, .int .i64 o11.High]], 0⟩])] rfl rfl (all1 (VRd.ntl (rd_mvB rfl)) all0) ?_
            refine dops_takeW [(low, [⟨46, 4, [.agg [.int .i64 x7.1.Sensor, .int .i64 x7.1.Time, .int .i64 x7.1.Span.Low, .int .i64 x7.1.Span.High]], 0⟩, ⟨46, 4, [.agg [.int .i64 x9.1.Sensor, .int .i64 x9.1.Time, .int .i64 x9.1.Span.Low, .int .i64 x9.1.Span.High]], 0⟩, ⟨33, 2, [.agg [.int .i64 o11.Low, .int .i64 o11.High]], 0⟩])] rfl rfl rfl (congrArg PV.bool c16) (all1 (VRd.ntl (rd_fieldAddr rfl tf_46_2 ts_33 (by decide))) all0) ?_
            refine dops_takeW [(low, [⟨46, 4, [.agg [.int .i64 x7.1.Sensor, .int .i64 x7.1.Time, .int .i64 x7.1.Span.Low, .int .i64 x7.1.Span.High]], 0⟩, ⟨46, 4, [.agg [.int .i64 x9.1.Sensor, .int .i64 x9.1.Time, .int .i64 x9.1.Span.Low, .int .i64 x9.1.Span.High]], 0⟩, ⟨33, 2, [.agg [.int .i64 o11.Low, .int .i64 o11.High]], 0⟩])] rfl rfl rfl (congrArg PV.bool c16) (all1 (VRd.ntl (rd_loadN (ds := [.int .i64 x7.1.Span.Low, .int .i64 x7.1.Span.High]) rfl (getO_N rfl rfl) rfl ta_33 ts_33 rfl rfl rfl)) all0) ?_
            refine dops_takeW [(low, [⟨46, 4, [.agg [.int .i64 x7.1.Sensor, .int .i64 x7.1.Time, .int .i64 x7.1.Span.Low, .int .i64 x7.1.Span.High]], 0⟩, ⟨46, 4, [.agg [.int .i64 x9.1.Sensor, .int .i64 x9.1.Time, .int .i64 x9.1.Span.Low, .int .i64 x9.1.Span.High]], 0⟩, ⟨33, 2, [.agg [.int .i64 o11.Low, .int .i64 o11.High]], 0⟩])] rfl rfl rfl (congrArg PV.bool c16) (all1 (nt_of (vef_callP rfl Try.call25 (F_sensor_Nothing_ok h18 _))) all0) ?_
            refine dops_takeW [(low, [⟨46, 4, [.agg [.int .i64 x7.1.Sensor, .int .i64 x7.1.Time, .int .i64 x7.1.Span.Low, .int .i64 x7.1.Span.High]], 0⟩, ⟨46, 4, [.agg [.int .i64 x9.1.Sensor, .int .i64 x9.1.Time, .int .i64 x9.1.Span.Low, .int .i64 x9.1.Span.High]], 0⟩, ⟨33, 2, [.agg [.int .i64 o11.Low, .int .i64 o11.High]], 0⟩])] rfl rfl rfl (congrArg PV.bool c16) (all1 (VRd.ntl (rd_eqlV (tab := eqTab) eqTab_ok rfl rfl eqg_33 rfl)) all0) ?_
            refine dops_rdW [(low, [⟨46, 4, [.agg [.int .i64 x7.1.Sensor, .int .i64 x7.1.Time, .int .i64 x7.1.Span.Low, .int .i64 x7.1.Span.High]], 0⟩, ⟨46, 4, [.agg [.int .i64 x9.1.Sensor, .int .i64 x9.1.Time, .int .i64 x9.1.Span.Low, .int .i64 x9.1.Span.High]], 0⟩, ⟨33, 2, [.agg [.int .i64 o11.Low, .int .i64 o11.High]], 0⟩])] rfl rfl (all1 (VRd.ntl (rd_pickT (congrArg PV.bool c16) rfl)) all0) ?_
            refine dops_rdW [(low, [⟨46, 4, [.agg [.int .i64 x7.1.Sensor, .int .i64 x7.1.Time, .int .i64 x7.1.Span.Low, .int .i64 x7.1.Span.High]], 0⟩, ⟨46, 4, [.agg [.int .i64 x9.1.Sensor, .int .i64 x9.1.Time, .int .i64 x9.1.Span.Low, .int .i64 x9.1.Span.High]], 0⟩, ⟨33, 2, [.agg [.int .i64 o11.Low, .int .i64 o11.High]], 0⟩])] rfl rfl (all1 (VRd.ntl (rd_mvB rfl)) all0) ?_
            refine dops_skip rfl rfl rfl (neF c19) ?_
            refine dops_skip rfl rfl rfl (neF c19) ?_
            refine dops_skip rfl rfl rfl (neF c19) ?_
            refine dops_skip rfl rfl rfl (neF c19) ?_
            refine dops_rdW [(low, [⟨46, 4, [.agg [.int .i64 x7.1.Sensor, .int .i64 x7.1.Time, .int .i64 x7.1.Span.Low, .int .i64 x7.1.Span.High]], 0⟩, ⟨46, 4, [.agg [.int .i64 x9.1.Sensor, .int .i64 x9.1.Time, .int .i64 x9.1.Span.Low, .int .i64 x9.1.Span.High]], 0⟩, ⟨33, 2, [.agg [.int .i64 o11.Low, .int .i64 o11.High]], 0⟩])] rfl rfl (all1 (VRd.ntl (rd_pickF (congrArg PV.bool c19) rfl)) all0) ?_
            refine dops_rdW [(low, [⟨46, 4, [.agg [.int .i64 x7.1.Sensor, .int .i64 x7.1.Time, .int .i64 x7.1.Span.Low, .int .i64 x7.1.Span.High]], 0⟩, ⟨46, 4, [.agg [.int .i64 x9.1.Sensor, .int .i64 x9.1.Time, .int .i64 x9.1.Span.Low, .int .i64 x9.1.Span.High]], 0⟩, ⟨33, 2, [.agg [.int .i64 o11.Low, .int .i64 o11.High]], 0⟩])] rfl rfl (all1 (VRd.ntl (rd_mvB rfl)) all0) ?_
            refine dops_skip rfl rfl rfl (by decide) ?_
            refine dops_rdW [(low, [⟨46, 4, [.agg [.int .i64 x7.1.Sensor, .int .i64 x7.1.Time, .int .i64 x7.1.Span.Low, .int .i64 x7.1.Span.High]], 0⟩, ⟨46, 4, [.agg [.int .i64 x9.1.Sensor, .int .i64 x9.1.Time, .int .i64 x9.1.Span.Low, .int .i64 x9.1.Span.High]], 0⟩, ⟨33, 2, [.agg [.int .i64 o11.Low, .int .i64 o11.High]], 0⟩])] rfl rfl (all1 (VRd.ntl (rd_pickF rfl rfl)) all0) ?_
            refine dops_rdW [(low, [⟨46, 4, [.agg [.int .i64 x7.1.Sensor, .int .i64 x7.1.Time, .int .i64 x7.1.Span.Low, .int .i64 x7.1.Span.High]], 0⟩, ⟨46, 4, [.agg [.int .i64 x9.1.Sensor, .int .i64 x9.1.Time, .int .i64 x9.1.Span.Low, .int .i64 x9.1.Span.High]], 0⟩, ⟨33, 2, [.agg [.int .i64 o11.Low, .int .i64 o11.High]], 0⟩])] rfl rfl (all1 (VRd.ntl (rd_asB rfl)) all0) ?_
            refine dops_nil ?_
            refine vwp_ret ?_
            obtain rfl := Option.some.inj hF
            refine fnR ?_
            exact weak_pick rfl [] (by decide) ⟨rn_low rfl (.bool _), trivial⟩ trivial
        · have hF := bifF c16 hF
          refine vwp_drawn [[], [0], [0, 1], [0, 1, 2], [0, 1, 2, 3], [0, 1, 2, 3, 4], [0, 1, 2, 3, 4, 5], [0, 1, 2, 3, 4, 5, 6], [0, 1, 2, 3, 4, 5, 6, 7], [0, 1, 2, 3, 4, 5, 6], [0, 1, 2, 3, 4, 5, 6, 7, 8, 9], [0, 1, 2, 3, 4, 5, 6, 7, 8, 9, 10], [0, 1, 2, 3, 4, 5, 6, 7, 8, 9, 10, 11], [0, 1, 2, 3, 4, 5, 6, 7, 8, 9, 10, 11, 12], [0, 1, 2, 3, 4, 5, 6, 7, 8, 9, 10, 11, 12, 13], [0, 1, 2, 3, 4, 5, 6, 7, 8, 9, 10, 11, 12], [0, 1, 2, 3, 4, 5, 6, 7, 8, 9, 10, 11, 12, 13, 14, 15], [0, 1, 2, 3, 4, 5, 6, 7, 8, 9, 10, 11, 12, 13, 14, 15, 16], [0, 1, 2, 3, 4, 5, 6, 7, 8, 9, 10, 11, 12, 13, 14, 15, 16, 17], [0, 1, 2, 3, 4, 5, 6, 7, 8, 9, 10, 11, 12, 13, 14, 15, 16, 17, 18], [0, 1, 2, 3, 4, 5, 6, 7, 8, 9, 10, 11, 12, 13, 14, 15, 16, 17, 18, 19], [0, 1, 2, 3, 4, 5, 6, 7, 8, 9, 10, 11, 12, 13, 14, 15, 16, 17, 18, 19, 20]] [false, false, false, false, false, false, false, false, false, false, false, false, false, false, false, false, false, false, false, false, false, false] [(low, [⟨46, 4, [.agg [.int .i64 x7.1.Sensor, .int .i64 x7.1.Time, .int .i64 x7.1.Span.Low, .int .i64 x7.1.Span.High]], 0⟩, ⟨46, 4, [.agg [.int .i64 x9.1.Sensor, .int .i64 x9.1.Time, .int .i64 x9.1.Span.Low, .int .i64 x9.1.Span.High]], 0⟩, ⟨33, 2, [.agg [.int .i64 o11.Low, .int .i64 o11.High]], 0⟩])] mixed (by kernel_rfl) rfl (lenAll (all1 rfl all0)) rfl (low, [⟨46, 4, [.agg [.int .i64 x7.1.Sensor, .int .i64 x7.1.Time, .int .i64 x7.1.Span.Low, .int .i64 x7.1.Span.High]], 0⟩, ⟨46, 4, [.agg [.int .i64 x9.1.Sensor, .int .i64 x9.1.Time, .int .i64 x9.1.Span.Low, .int .i64 x9.1.Span.High]], 0⟩, ⟨33, 2, [.agg [.int .i64 o11.Low, .int .i64 o11.High]], 0⟩]) rfl rfl ?_
          refine dops_rdW [(low, [⟨46, 4, [.agg [.int .i64 x7.1.Sensor, .int .i64 x7.1.Time, .int .i64 x7.1.Span.Low, .int .i64 x7.1.Span.High]], 0⟩, ⟨46, 4, [.agg [.int .i64 x9.1.Sensor, .int .i64 x9.1.Time, .int .i64 x9.1.Span.Low, .int .i64 x9.1.Span.High]], 0⟩, ⟨33, 2, [.agg [.int .i64 o11.Low, .int .i64 o11.High]], 0⟩])] rfl rfl (all1 (VRd.ntl (rd_mvI rfl)) all0) ?_
          refine dops_rdW [(low, [⟨46, 4, [.agg [.int .i64 x7.1.Sensor, .int .i64 x7.1.Time, .int .i64 x7.1.Span.Low, .int .i64 x7.1.Span.High]], 0⟩, ⟨46, 4, [.agg [.int .i64 x9.1.Sensor, .int .i64 x9.1.Time, .int .i64 x9.1.Span.Low, .int .i64 x9.1.Span.High]], 0⟩, ⟨33, 2, [.agg [.int .i64 o11.Low, .int .i64 o11.High]], 0⟩])] rfl rfl (all1 (VRd.ntl (rd_eql rfl rfl)) all0) ?_
          refine dops_rdW [(low, [⟨46, 4, [.agg [.int .i64 x7.1.Sensor, .int .i64 x7.1.Time, .int .i64 x7.1.Span.Low, .int .i64 x7.1.Span.High]], 0⟩, ⟨46, 4, [.agg [.int .i64 x9.1.Sensor, .int .i64 x9.1.Time, .int .i64 x9.1.Span.Low, .int .i64 x9.1.Span.High]], 0⟩, ⟨33, 2, [.agg [.int .i64 o11.Low, .int .i64 o11.High]], 0⟩])] rfl rfl (all1 (VRd.ntl (rd_mvB rfl)) all0) ?_
          refine dops_takeW [(low, [⟨46, 4, [.agg [.int .i64 x7.1.Sensor, .int .i64 x7.1.Time, .int .i64 x7.1.Span.Low, .int .i64 x7.1.Span.High]], 0⟩, ⟨46, 4, [.agg [.int .i64 x9.1.Sensor, .int .i64 x9.1.Time, .int .i64 x9.1.Span.Low, .int .i64 x9.1.Span.High]], 0⟩, ⟨33, 2, [.agg [.int .i64 o11.Low, .int .i64 o11.High]], 0⟩])] rfl rfl rfl (congrArg PV.bool c15) (all1 (VRd.ntl (rd_mvI rfl)) all0) ?_
          refine dops_takeW [(low, [⟨46, 4, [.agg [.int .i64 x7.1.Sensor, .int .i64 x7.1.Time, .int .i64 x7.1.Span.Low, .int .i64 x7.1.Span.High]], 0⟩, ⟨46, 4, [.agg [.int .i64 x9.1.Sensor, .int .i64 x9.1.Time, .int .i64 x9.1.Span.Low, .int .i64 x9.1.Span.High]], 0⟩, ⟨33, 2, [.agg [.int .i64 o11.Low, .int .i64 o11.High]], 0⟩])] rfl rfl rfl (congrArg PV.bool c15) (all1 (VRd.ntl (rd_eql rfl rfl)) all0) ?_
          refine dops_rdW [(low, [⟨46, 4, [.agg [.int .i64 x7.1.Sensor, .int .i64 x7.1.Time, .int .i64 x7.1.Span.Low, .int .i64 x7.1.Span.High]], 0⟩, ⟨46, 4, [.agg [.int .i64 x9.1.Sensor, .int .i64 x9.1.Time, .int .i64 x9.1.Span.Low, .int .i64 x9.1.Span.High]], 0⟩, ⟨33, 2, [.agg [.int .i64 o11.Low, .int .i64 o11.High]], 0⟩])] rfl rfl (all1 (VRd.ntl (rd_pickT (congrArg PV.bool c15) rfl)) all0) ?_
          refine dops_rdW [(low, [⟨46, 4, [.agg [.int .i64 x7.1.Sensor, .int .i64 x7.1.Time, .int .i64 x7.1.Span.Low, .int .i64 x7.1.Span.High]], 0⟩, ⟨46, 4, [.agg [.int .i64 x9.1.Sensor, .int .i64 x9.1.Time, .int .i64 x9.1.Span.Low, .int .i64 x9.1.Span.High]], 0⟩, ⟨33, 2, [.agg [.int .i64 o11.Low, .int .i64 o11.High]], 0⟩])] rfl rfl (all1 (VRd.ntl (rd_mvB rfl)) all0) ?_
          refine dops_skip rfl rfl rfl (neF c16) ?_
          refine dops_skip rfl rfl rfl (neF c16) ?_
          refine dops_skip rfl rfl rfl (neF c16) ?_
          refine dops_skip rfl rfl rfl (neF c16) ?_
          refine dops_rdW [(low, [⟨46, 4, [.agg [.int .i64 x7.1.Sensor, .int .i64 x7.1.Time, .int .i64 x7.1.Span.Low, .int .i64 x7.1.Span.High]], 0⟩, ⟨46, 4, [.agg [.int .i64 x9.1.Sensor, .int .i64 x9.1.Time, .int .i64 x9.1.Span.Low, .int .i64 x9.1.Span.High]], 0⟩, ⟨33, 2, [.agg [.int .i64 o11.Low, .int .i64 o11.High]], 0⟩])] rfl rfl (all1 (VRd.ntl (rd_pickF (congrArg PV.bool c16) rfl)) all0) ?_
          refine dops_rdW [(low, [⟨46, 4, [.agg [.int .i64 x7.1.Sensor, .int .i64 x7.1.Time, .int .i64 x7.1.Span.Low, .int .i64 x7.1.Span.High]], 0⟩, ⟨46, 4, [.agg [.int .i64 x9.1.Sensor, .int .i64 x9.1.Time, .int .i64 x9.1.Span.Low, .int .i64 x9.1.Span.High]], 0⟩, ⟨33, 2, [.agg [.int .i64 o11.Low, .int .i64 o11.High]], 0⟩])] rfl rfl (all1 (VRd.ntl (rd_mvB rfl)) all0) ?_
          refine dops_skip rfl rfl rfl (by decide) ?_
          refine dops_skip rfl rfl rfl (by decide) ?_
          refine dops_skip rfl rfl rfl (by decide) ?_
          refine dops_skip rfl rfl rfl (by decide) ?_
          refine dops_rdW [(low, [⟨46, 4, [.agg [.int .i64 x7.1.Sensor, .int .i64 x7.1.Time, .int .i64 x7.1.Span.Low, .int .i64 x7.1.Span.High]], 0⟩, ⟨46, 4, [.agg [.int .i64 x9.1.Sensor, .int .i64 x9.1.Time, .int .i64 x9.1.Span.Low, .int .i64 x9.1.Span.High]], 0⟩, ⟨33, 2, [.agg [.int .i64 o11.Low, .int .i64 o11.High]], 0⟩])] rfl rfl (all1 (VRd.ntl (rd_pickF rfl rfl)) all0) ?_
          refine dops_rdW [(low, [⟨46, 4, [.agg [.int .i64 x7.1.Sensor, .int .i64 x7.1.Time, .int .i64 x7.1.Span.Low, .int .i64 x7.1.Span.High]], 0⟩, ⟨46, 4, [.agg [.int .i64 x9.1.Sensor, .int .i64 x9.1.Time, .int .i64 x9.1.Span.Low, .int .i64 x9.1.Span.High]], 0⟩, ⟨33, 2, [.agg [.int .i64 o11.Low, .int .i64 o11.High]], 0⟩])] rfl rfl (all1 (VRd.ntl (rd_mvB rfl)) all0) ?_
          refine dops_skip rfl rfl rfl (by decide) ?_
          refine dops_rdW [(low, [⟨46, 4, [.agg [.int .i64 x7.1.Sensor, .int .i64 x7.1.Time, .int .i64 x7.1.Span.Low, .int .i64 x7.1.Span.High]], 0⟩, ⟨46, 4, [.agg [.int .i64 x9.1.Sensor, .int .i64 x9.1.Time, .int .i64 x9.1.Span.Low, .int .i64 x9.1.Span.High]], 0⟩, ⟨33, 2, [.agg [.int .i64 o11.Low, .int .i64 o11.High]], 0⟩])] rfl rfl (all1 (VRd.ntl (rd_pickF rfl rfl)) all0) ?_
          refine dops_rdW [(low, [⟨46, 4, [.agg [.int .i64 x7.1.Sensor, .int .i64 x7.1.Time, .int .i64 x7.1.Span.Low, .int .i64 x7.1.Span.High]], 0⟩, ⟨46, 4, [.agg [.int .i64 x9.1.Sensor, .int .i64 x9.1.Time, .int .i64 x9.1.Span.Low, .int .i64 x9.1.Span.High]], 0⟩, ⟨33, 2, [.agg [.int .i64 o11.Low, .int .i64 o11.High]], 0⟩])] rfl rfl (all1 (VRd.ntl (rd_asB rfl)) all0) ?_
          refine dops_nil ?_
          refine vwp_ret ?_
          obtain rfl := Option.some.inj hF
          refine fnR ?_
          exact weak_pick rfl [] (by decide) ⟨rn_low rfl (.bool _), trivial⟩ trivial
      · have hF := bifF c15 hF
        refine vwp_drawn [[], [0], [0, 1], [0, 1, 2], [0, 1, 2, 3], [0, 1, 2, 3, 4], [0, 1, 2, 3, 4, 5], [0, 1, 2, 3, 4, 5, 6], [0, 1, 2, 3, 4, 5, 6, 7], [0, 1, 2, 3, 4, 5, 6], [0, 1, 2, 3, 4, 5, 6, 7, 8, 9], [0, 1, 2, 3, 4, 5, 6, 7, 8, 9, 10], [0, 1, 2, 3, 4, 5, 6, 7, 8, 9, 10, 11], [0, 1, 2, 3, 4, 5, 6, 7, 8, 9, 10, 11, 12], [0, 1, 2, 3, 4, 5, 6, 7, 8, 9, 10, 11, 12, 13], [0, 1, 2, 3, 4, 5, 6, 7, 8, 9, 10, 11, 12], [0, 1, 2, 3, 4, 5, 6, 7, 8, 9, 10, 11, 12, 13, 14, 15], [0, 1, 2, 3, 4, 5, 6, 7, 8, 9, 10, 11, 12, 13, 14, 15, 16], [0, 1, 2, 3, 4, 5, 6, 7, 8, 9, 10, 11, 12, 13, 14, 15, 16, 17], [0, 1, 2, 3, 4, 5, 6, 7, 8, 9, 10, 11, 12, 13, 14, 15, 16, 17, 18], [0, 1, 2, 3, 4, 5, 6, 7, 8, 9, 10, 11, 12, 13, 14, 15, 16, 17, 18, 19], [0, 1, 2, 3, 4, 5, 6, 7, 8, 9, 10, 11, 12, 13, 14, 15, 16, 17, 18, 19, 20]] [false, false, false, false, false, false, false, false, false, false, false, false, false, false, false, false, false, false, false, false, false, false] [(low, [⟨46, 4, [.agg [.int .i64 x7.1.Sensor, .int .i64 x7.1.Time, .int .i64 x7.1.Span.Low, .int .i64 x7.1.Span.High]], 0⟩, ⟨46, 4, [.agg [.int .i64 x9.1.Sensor, .int .i64 x9.1.Time, .int .i64 x9.1.Span.Low, .int .i64 x9.1.Span.High]], 0⟩, ⟨33, 2, [.agg [.int .i64 o11.Low, .int .i64 o11.High]], 0⟩])] mixed (by kernel_rfl) rfl (lenAll (all1 rfl all0)) rfl (low, [⟨46, 4, [.agg [.int .i64 x7.1.Sensor, .int .i64 x7.1.Time, .int .i64 x7.1.Span.Low, .int .i64 x7.1.Span.High]], 0⟩, ⟨46, 4, [.agg [.int .i64 x9.1.Sensor, .int .i64 x9.1.Time, .int .i64 x9.1.Span.Low, .int .i64 x9.1.Span.High]], 0⟩, ⟨33, 2, [.agg [.int .i64 o11.Low, .int .i64 o11.High]], 0⟩]) rfl rfl ?_
        refine dops_rdW [(low, [⟨46, 4, [.agg [.int .i64 x7.1.Sensor, .int .i64 x7.1.Time, .int .i64 x7.1.Span.Low, .int .i64 x7.1.Span.High]], 0⟩, ⟨46, 4, [.agg [.int .i64 x9.1.Sensor, .int .i64 x9.1.Time, .int .i64 x9.1.Span.Low, .int .i64 x9.1.Span.High]], 0⟩, ⟨33, 2, [.agg [.int .i64 o11.Low, .int .i64 o11.High]], 0⟩])] rfl rfl (all1 (VRd.ntl (rd_mvI rfl)) all0) ?_
        refine dops_rdW [(low, [⟨46, 4, [.agg [.int .i64 x7.1.Sensor, .int .i64 x7.1.Time, .int .i64 x7.1.Span.Low, .int .i64 x7.1.Span.High]], 0⟩, ⟨46, 4, [.agg [.int .i64 x9.1.Sensor, .int .i64 x9.1.Time, .int .i64 x9.1.Span.Low, .int .i64 x9.1.Span.High]], 0⟩, ⟨33, 2, [.agg [.int .i64 o11.Low, .int .i64 o11.High]], 0⟩])] rfl rfl (all1 (VRd.ntl (rd_eql rfl rfl)) all0) ?_
        refine dops_rdW [(low, [⟨46, 4, [.agg [.int .i64 x7.1.Sensor, .int .i64 x7.1.Time, .int .i64 x7.1.Span.Low, .int .i64 x7.1.Span.High]], 0⟩, ⟨46, 4, [.agg [.int .i64 x9.1.Sensor, .int .i64 x9.1.Time, .int .i64 x9.1.Span.Low, .int .i64 x9.1.Span.High]], 0⟩, ⟨33, 2, [.agg [.int .i64 o11.Low, .int .i64 o11.High]], 0⟩])] rfl rfl (all1 (VRd.ntl (rd_mvB rfl)) all0) ?_
        refine dops_skip rfl rfl rfl (neF c15) ?_
        refine dops_skip rfl rfl rfl (neF c15) ?_
        refine dops_rdW [(low, [⟨46, 4, [.agg [.int .i64 x7.1.Sensor, .int .i64 x7.1.Time, .int .i64 x7.1.Span.Low, .int .i64 x7.1.Span.High]], 0⟩, ⟨46, 4, [.agg [.int .i64 x9.1.Sensor, .int .i64 x9.1.Time, .int .i64 x9.1.Span.Low, .int .i64 x9.1.Span.High]], 0⟩, ⟨33, 2, [.agg [.int .i64 o11.Low, .int .i64 o11.High]], 0⟩])] rfl rfl (all1 (VRd.ntl (rd_pickF (congrArg PV.bool c15) rfl)) all0) ?_
        refine dops_rdW [(low, [⟨46, 4, [.agg [.int .i64 x7.1.Sensor, .int .i64 x7.1.Time, .int .i64 x7.1.Span.Low, .int .i64 x7.1.Span.High]], 0⟩, ⟨46, 4, [.agg [.int .i64 x9.1.Sensor, .int .i64 x9.1.Time, .int .i64 x9.1.Span.Low, .int .i64 x9.1.Span.High]], 0⟩, ⟨33, 2, [.agg [.int .i64 o11.Low, .int .i64 o11.High]], 0⟩])] rfl rfl (all1 (VRd.ntl (rd_mvB rfl)) all0) ?_
        refine dops_skip rfl rfl rfl (by decide) ?_
        refine dops_skip rfl rfl rfl (by decide) ?_
        refine dops_skip rfl rfl rfl (by decide) ?_
        refine dops_skip rfl rfl rfl (by decide) ?_
        refine dops_rdW [(low, [⟨46, 4, [.agg [.int .i64 x7.1.Sensor, .int .i64 x7.1.Time, .int .i64 x7.1.Span.Low, .int .i64 x7.1.Span.High]], 0⟩, ⟨46, 4, [.agg [.int .i64 x9.1.Sensor, .int .i64 x9.1.Time, .int .i64 x9.1.Span.Low, .int .i64 x9.1.Span.High]], 0⟩, ⟨33, 2, [.agg [.int .i64 o11.Low, .int .i64 o11.High]], 0⟩])] rfl rfl (all1 (VRd.ntl (rd_pickF rfl rfl)) all0) ?_
        refine dops_rdW [(low, [⟨46, 4, [.agg [.int .i64 x7.1.Sensor, .int .i64 x7.1.Time, .int .i64 x7.1.Span.Low, .int .i64 x7.1.Span.High]], 0⟩, ⟨46, 4, [.agg [.int .i64 x9.1.Sensor, .int .i64 x9.1.Time, .int .i64 x9.1.Span.Low, .int .i64 x9.1.Span.High]], 0⟩, ⟨33, 2, [.agg [.int .i64 o11.Low, .int .i64 o11.High]], 0⟩])] rfl rfl (all1 (VRd.ntl (rd_mvB rfl)) all0) ?_
        refine dops_skip rfl rfl rfl (by decide) ?_
        refine dops_skip rfl rfl rfl (by decide) ?_
        refine dops_skip rfl rfl rfl (by decide) ?_
        refine dops_skip rfl rfl rfl (by decide) ?_
        refine dops_rdW [(low, [⟨46, 4, [.agg [.int .i64 x7.1.Sensor, .int .i64 x7.1.Time, .int .i64 x7.1.Span.Low, .int .i64 x7.1.Span.High]], 0⟩, ⟨46, 4, [.agg [.int .i64 x9.1.Sensor, .int .i64 x9.1.Time, .int .i64 x9.1.Span.Low, .int .i64 x9.1.Span.High]], 0⟩, ⟨33, 2, [.agg [.int .i64 o11.Low, .int .i64 o11.High]], 0⟩])] rfl rfl (all1 (VRd.ntl (rd_pickF rfl rfl)) all0) ?_
        refine dops_rdW [(low, [⟨46, 4, [.agg [.int .i64 x7.1.Sensor, .int .i64 x7.1.Time, .int .i64 x7.1.Span.Low, .int .i64 x7.1.Span.High]], 0⟩, ⟨46, 4, [.agg [.int .i64 x9.1.Sensor, .int .i64 x9.1.Time, .int .i64 x9.1.Span.Low, .int .i64 x9.1.Span.High]], 0⟩, ⟨33, 2, [.agg [.int .i64 o11.Low, .int .i64 o11.High]], 0⟩])] rfl rfl (all1 (VRd.ntl (rd_mvB rfl)) all0) ?_
        refine dops_skip rfl rfl rfl (by decide) ?_
        refine dops_rdW [(low, [⟨46, 4, [.agg [.int .i64 x7.1.Sensor, .int .i64 x7.1.Time, .int .i64 x7.1.Span.Low, .int .i64 x7.1.Span.High]], 0⟩, ⟨46, 4, [.agg [.int .i64 x9.1.Sensor, .int .i64 x9.1.Time, .int .i64 x9.1.Span.Low, .int .i64 x9.1.Span.High]], 0⟩, ⟨33, 2, [.agg [.int .i64 o11.Low, .int .i64 o11.High]], 0⟩])] rfl rfl (all1 (VRd.ntl (rd_pickF rfl rfl)) all0) ?_
        refine dops_rdW [(low, [⟨46, 4, [.agg [.int .i64 x7.1.Sensor, .int .i64 x7.1.Time, .int .i64 x7.1.Span.Low, .int .i64 x7.1.Span.High]], 0⟩, ⟨46, 4, [.agg [.int .i64 x9.1.Sensor, .int .i64 x9.1.Time, .int .i64 x9.1.Span.Low, .int .i64 x9.1.Span.High]], 0⟩, ⟨33, 2, [.agg [.int .i64 o11.Low, .int .i64 o11.High]], 0⟩])] rfl rfl (all1 (VRd.ntl (rd_asB rfl)) all0) ?_
        refine dops_nil ?_
        refine vwp_ret ?_
        obtain rfl := Option.some.inj hF
        refine fnR ?_
        exact weak_pick rfl [] (by decide) ⟨rn_low rfl (.bool _), trivial⟩ trivial
  · rintro _ _ _ _ ⟨he, hw⟩
    refine ⟨_, _, _, hw, ?_⟩
    exact bodyQ_pure he [.bool r] ⟨rfl, trivial⟩ (.bool _) ⟨rfl, rfl⟩

theorem F_sensor_Raw_ok {p0 : T_Sensor} {p1 : Int} {r : Int × Bool} (hF : F_sensor_Raw p0 p1 = some r) (low : List AObj) :
    VCalls Try.prog 26 [.agg [.int .i64 p0.Address, .int .i64 p0.Kind, .int .i64 p0.Target, .int .i64 p0.Offset, .int .i64 p0.Scale, .int .i64 p0.Error, .int .i64 p0.Drift, .int .i64 p0.Life], .int .i64 p1] low fun x low' => x = .tup [.int .i64 r.1, .bool r.2] ∧ low' = low := by
  refine vcalls_of_body (nt := 34) (rs := [.tmp 4, .tmp 5]) Try.func26 rfl rfl (Nat.le_of_ble_eq_true rfl) rfl ?_
  refine vwp_monoW (Q' := FnE (fun E' lw lc => Weak E' lw lc [(4, .int .i64 r.1), (5, .bool r.2)] low [])) ?_ ?_
  · unfold F_sensor_Raw at hF
    refine vwp_seq ?_
    refine vwp_region ?_
    refine vops_efE (vef_boxN rfl rfl (v := .agg [.int .i64 p0.Address, .int .i64 p0.Kind, .int .i64 p0.Target, .int .i64 p0.Offset, .int .i64 p0.Scale, .int .i64 p0.Error, .int .i64 p0.Drift, .int .i64 p0.Life]) rfl rfl (Nat.succ_pos _) rfl rfl) rfl ?_
    refine vops_rd (rd_asI rfl) rfl ?_
    refine vops_rd (rd_asB rfl) rfl ?_
    refine vops_nil ?_
    refine vwp_seq ?_
    refine vwp_seq ?_
    refine vwp_region ?_
    obtain ⟨x1, h2, hF⟩ := bnd hF
    refine vops_rd (rd_loadN (ds := [.int .i64 p0.Address, .int .i64 p0.Kind, .int .i64 p0.Target, .int .i64 p0.Offset, .int .i64 p0.Scale, .int .i64 p0.Error, .int .i64 p0.Drift, .int .i64 p0.Life]) rfl (getO_N rfl rfl) rfl ta_24 ts_24 rfl rfl rfl) rfl ?_
    refine vops_efE (vef_callP rfl Try.call11 (F_sensor_Check_ok h2 _)) rfl ?_
    refine vops_rd (rd_neq rfl rfl) rfl ?_
    refine vops_nil ?_
    refine vwp_cond rfl (fun c3 => ?_) (fun c3 => ?_)
    · have hF := bifT c3 hF
      refine vwp_seq ?_
      refine vwp_region ?_
      refine vops_rd (rd_asI rfl) rfl ?_
      refine vops_rd (rd_asB rfl) rfl ?_
      refine vops_nil ?_
      refine vwp_ret ?_
      obtain rfl := Option.some.inj hF
      refine fnR ?_
      exact weak_pick rfl [] (by decide) ⟨rn_low rfl (.int _ _), rn_low rfl (.bool _), trivial⟩ trivial
    · have hF := bifF c3 hF
      refine vwp_skip ?_
      refine vwp_seq ?_
      refine vwp_seq ?_
      refine vwp_region ?_
      refine vops_rd (rd_asI rfl) rfl ?_
      refine vops_nil ?_
      refine vwp_block ?_
      obtain ⟨o5, ho5, hF⟩ := bnd hF
      refine vwp_monoW (vwp_loopC (F_sensor_Raw_L1 p0 p1) (fun s4 E' lw lc => Weak E' lw lc [(1, .int .i64 p1), (2, .ptr (low.length + 0) 0 0 0), (6, .int .i64 s4)] low [⟨24, 8, [.agg [.int .i64 p0.Address, .int .i64 p0.Kind, .int .i64 p0.Target, .int .i64 p0.Offset, .int .i64 p0.Scale, .int .i64 p0.Error, .int .i64 p0.Drift, .int .i64 p0.Life]], 0⟩]) (Sum.elim (fun j6 => OnlyE .ret (fun E' lw lc => Weak E' lw lc [(4, .int .i64 j6), (5, .bool true)] low [])) (fun j7 => OnlyE (.exit 0) (fun E' lw lc => Weak E' lw lc [] low []))) ho5 ?_ (by rintro (_|_) _ _ _ ⟨h, _⟩ <;> cases h) ?_) ?_
      · exact weak_sub ⟨rfl, rfl, rfl, trivial⟩
      · rintro s4 os4 _ _ _ hF hw
        unfold F_sensor_Raw_L1 at hF
        refine vwp_weak hw ?_
        refine vwp_seq ?_
        refine vwp_seq ?_
        refine vwp_region ?_
        refine vops_rd (rd_mvI rfl) rfl ?_
        refine vops_rd (rd_leq rfl rfl) rfl ?_
        refine vops_nil ?_
        refine vwp_cond rfl (fun c8 => ?_) (fun c8 => ?_)
        · have hF := bifT c8 hF
          refine vwp_skip ?_
          refine vwp_seq ?_
          refine vwp_block ?_
          refine vwp_seq ?_
          refine vwp_region ?_
          obtain ⟨x9, h10, hF⟩ := bnd hF
          refine vops_rd (rd_loadN (ds := [.int .i64 p0.Address, .int .i64 p0.Kind, .int .i64 p0.Target, .int .i64 p0.Offset, .int .i64 p0.Scale, .int .i64 p0.Error, .int .i64 p0.Drift, .int .i64 p0.Life]) rfl (getO_N rfl rfl) rfl ta_24 ts_24 rfl rfl rfl) rfl ?_
          refine vops_rd (rd_mvI rfl) rfl ?_
          refine vops_efE (vef_callP rfl Try.call31 (F_sensor_value_ok h10 _)) rfl ?_
          refine vops_efE (vef_allocN rfl rfl tz_33 rfl rfl (Nat.succ_pos _) rfl) rfl ?_
          refine vops_efE (vef_store (p := .agg [.int .i64 x9.Low, .int .i64 x9.High]) (e' := .agg [.int .i64 x9.Low, .int .i64 x9.High]) rfl (getO_N rfl rfl) rfl rfl ts_33 rfl (nt_ne rfl) rfl (Nat.le_of_ble_eq_true rfl) rfl (setO_N rfl rfl)) rfl ?_
          refine vops_nil ?_
          refine vwp_seq ?_
          obtain ⟨o11, ho11, hF⟩ := bnd hF
          refine vwp_monoW (Q' := (fun o11 => OnlyE .normal (fun E' lw lc => Weak E' lw lc [(1, .int .i64 p1), (2, .ptr (low.length + 0) 0 0 0), (6, .int .i64 s4), (32, .bool o11)] low [⟨24, 8, [.agg [.int .i64 p0.Address, .int .i64 p0.Kind, .int .i64 p0.Target, .int .i64 p0.Offset, .int .i64 p0.Scale, .int .i64 p0.Error, .int .i64 p0.Drift, .int .i64 p0.Life]], 0⟩])) o11) ?_ ?_
          · replace hF := ho11
            obtain ⟨x12, h13, hF⟩ := bnd hF
            rcases Bool.eq_false_or_eq_true (!((x9.Low == x12.Low) && ((x9.High == x12.High) && true))) with c14 | c14
            · have hF := bifT c14 hF
              rcases Bool.eq_false_or_eq_true (decide (x9.Low ≤ p1)) with c15 | c15
              · have hF := bifT c15 hF
                refine vwp_drawn [[], [], [0, 1], [0, 1, 2], [0, 1, 2, 3], [0, 1, 2, 3, 4], [0, 1, 2, 3], [0, 1, 2, 3, 4, 5, 6], [0, 1, 2, 3, 4, 5, 6, 7], [0, 1, 2, 3, 4, 5, 6, 7, 8], [0, 1, 2, 3, 4, 5, 6, 7, 8, 9], [0, 1, 2, 3, 4, 5, 6, 7, 8, 9], [0, 1, 2, 3, 4, 5, 6, 7, 8, 9, 11], [0, 1, 2, 3, 4, 5, 6, 7, 8, 9, 10, 11, 12], [0, 1, 2, 3, 4, 5, 6, 7, 8, 9, 10, 11, 12, 13]] [false, false, false, false, false, false, false, false, false, false, false, false, false, false, false] [(low, [⟨24, 8, [.agg [.int .i64 p0.Address, .int .i64 p0.Kind, .int .i64 p0.Target, .int .i64 p0.Offset, .int .i64 p0.Scale, .int .i64 p0.Error, .int .i64 p0.Drift, .int .i64 p0.Life]], 0⟩, ⟨33, 2, [.agg [.int .i64 x9.Low, .int .i64 x9.High]], 0⟩])] mixed (by kernel_rfl) rfl (lenAll (all1 rfl all0)) rfl (low, [⟨24, 8, [.agg [.int .i64 p0.Address, .int .i64 p0.Kind, .int .i64 p0.Target, .int .i64 p0.Offset, .int .i64 p0.Scale, .int .i64 p0.Error, .int .i64 p0.Drift, .int .i64 p0.Life]], 0⟩, ⟨33, 2, [.agg [.int .i64 x9.Low, .int .i64 x9.High]], 0⟩]) rfl rfl ?_
                refine dops_rdW [(low, [⟨24, 8, [.agg [.int .i64 p0.Address, .int .i64 p0.Kind, .int .i64 p0.Target, .int .i64 p0.Offset, .int .i64 p0.Scale, .int .i64 p0.Error, .int .i64 p0.Drift, .int .i64 p0.Life]], 0⟩, ⟨33, 2, [.agg [.int .i64 x9.Low, .int .i64 x9.High]], 0⟩])] rfl rfl (all1 (VRd.ntl (rd_loadN (ds := [.int .i64 x9.Low, .int .i64 x9.High]) rfl (getO_N rfl rfl) rfl ta_33 ts_33 rfl rfl rfl)) all0) ?_
                refine dops_rdW [(low, [⟨24, 8, [.agg [.int .i64 p0.Address, .int .i64 p0.Kind, .int .i64 p0.Target, .int .i64 p0.Offset, .int .i64 p0.Scale, .int .i64 p0.Error, .int .i64 p0.Drift, .int .i64 p0.Life]], 0⟩, ⟨33, 2, [.agg [.int .i64 x9.Low, .int .i64 x9.High]], 0⟩])] rfl rfl (all1 (nt_of (vef_callP rfl Try.call25 (F_sensor_Nothing_ok h13 _))) all0) ?_
                refine dops_rdW [(low, [⟨24, 8, [.agg [.int .i64 p0.Address, .int .i64 p0.Kind, .int .i64 p0.Target, .int .i64 p0.Offset, .int .i64 p0.Scale, .int .i64 p0.Error, .int .i64 p0.Drift, .int .i64 p0.Life]], 0⟩, ⟨33, 2, [.agg [.int .i64 x9.Low, .int .i64 x9.High]], 0⟩])] rfl rfl (all1 (VRd.ntl (rd_neqV (tab := eqTab) eqTab_ok rfl rfl eqg_33 rfl)) all0) ?_
                refine dops_rdW [(low, [⟨24, 8, [.agg [.int .i64 p0.Address, .int .i64 p0.Kind, .int .i64 p0.Target, .int .i64 p0.Offset, .int .i64 p0.Scale, .int .i64 p0.Error, .int .i64 p0.Drift, .int .i64 p0.Life]], 0⟩, ⟨33, 2, [.agg [.int .i64 x9.Low, .int .i64 x9.High]], 0⟩])] rfl rfl (all1 (VRd.ntl (rd_mvB rfl)) all0) ?_
                refine dops_takeW [(low, [⟨24, 8, [.agg [.int .i64 p0.Address, .int .i64 p0.Kind, .int .i64 p0.Target, .int .i64 p0.Offset, .int .i64 p0.Scale, .int .i64 p0.Error, .int .i64 p0.Drift, .int .i64 p0.Life]], 0⟩, ⟨33, 2, [.agg [.int .i64 x9.Low, .int .i64 x9.High]], 0⟩])] rfl rfl rfl (congrArg PV.bool c14) (all1 (VRd.ntl (rd_fieldAddr rfl tf_33_0 ts_3 (by decide))) all0) ?_
                refine dops_takeW [(low, [⟨24, 8, [.agg [.int .i64 p0.Address, .int .i64 p0.Kind, .int .i64 p0.Target, .int .i64 p0.Offset, .int .i64 p0.Scale, .int .i64 p0.Error, .int .i64 p0.Drift, .int .i64 p0.Life]], 0⟩, ⟨33, 2, [.agg [.int .i64 x9.Low, .int .i64 x9.High]], 0⟩])] rfl rfl rfl (congrArg PV.bool c14) (all1 (VRd.ntl (rd_load1 rfl (getO_N rfl rfl) rfl ta_3 rfl)) all0) ?_
                refine dops_takeW [(low, [⟨24, 8, [.agg [.int .i64 p0.Address, .int .i64 p0.Kind, .int .i64 p0.Target, .int .i64 p0.Offset, .int .i64 p0.Scale, .int .i64 p0.Error, .int .i64 p0.Drift, .int .i64 p0.Life]], 0⟩, ⟨33, 2, [.agg [.int .i64 x9.Low, .int .i64 x9.High]], 0⟩])] rfl rfl rfl (congrArg PV.bool c14) (all1 (VRd.ntl (rd_mvI rfl)) all0) ?_
                refine dops_takeW [(low, [⟨24, 8, [.agg [.int .i64 p0.Address, .int .i64 p0.Kind, .int .i64 p0.Target, .int .i64 p0.Offset, .int .i64 p0.Scale, .int .i64 p0.Error, .int .i64 p0.Drift, .int .i64 p0.Life]], 0⟩, ⟨33, 2, [.agg [.int .i64 x9.Low, .int .i64 x9.High]], 0⟩])] rfl rfl rfl (congrArg PV.bool c14) (all1 (VRd.ntl (rd_leq rfl rfl)) all0) ?_
                refine dops_rdW [(low, [⟨24, 8, [.agg [.int .i64 p0.Address, .int .i64 p0.Kind, .int .i64 p0.Target, .int .i64 p0.Offset, .int .i64 p0.Scale, .int .i64 p0.Error, .int .i64 p0.Drift, .int .i64 p0.Life]], 0⟩, ⟨33, 2, [.agg [.int .i64 x9.Low, .int .i64 x9.High]], 0⟩])] rfl rfl (all1 (VRd.ntl (rd_pickT (congrArg PV.bool c14) rfl)) all0) ?_
                refine dops_rdW [(low, [⟨24, 8, [.agg [.int .i64 p0.Address, .int .i64 p0.Kind, .int .i64 p0.Target, .int .i64 p0.Offset, .int .i64 p0.Scale, .int .i64 p0.Error, .int .i64 p0.Drift, .int .i64 p0.Life]], 0⟩, ⟨33, 2, [.agg [.int .i64 x9.Low, .int .i64 x9.High]], 0⟩])] rfl rfl (all1 (VRd.ntl (rd_mvB rfl)) all0) ?_
                refine dops_takeW [(low, [⟨24, 8, [.agg [.int .i64 p0.Address, .int .i64 p0.Kind, .int .i64 p0.Target, .int .i64 p0.Offset, .int .i64 p0.Scale, .int .i64 p0.Error, .int .i64 p0.Drift, .int .i64 p0.Life]], 0⟩, ⟨33, 2, [.agg [.int .i64 x9.Low, .int .i64 x9.High]], 0⟩])] rfl rfl rfl (congrArg PV.bool c15) (all1 (VRd.ntl (rd_mvI rfl)) all0) ?_
                refine dops_takeW [(low, [⟨24, 8, [.agg [.int .i64 p0.Address, .int .i64 p0.Kind, .int .i64 p0.Target, .int .i64 p0.Offset, .int .i64 p0.Scale, .int .i64 p0.Error, .int .i64 p0.Drift, .int .i64 p0.Life]], 0⟩, ⟨33, 2, [.agg [.int .i64 x9.Low, .int .i64 x9.High]], 0⟩])] rfl rfl rfl (congrArg PV.bool c15) (all1 (VRd.ntl (rd_fieldAddr rfl tf_33_1 ts_3 (by decide))) all0) ?_
                refine dops_takeW [(low, [⟨24, 8, [.agg [.int .i64 p0.Address, .int .i64 p0.Kind, .int .i64 p0.Target, .int .i64 p0.Offset, .int .i64 p0.Scale, .int .i64 p0.Error, .int .i64 p0.Drift, .int .i64 p0.Life]], 0⟩, ⟨33, 2, [.agg [.int .i64 x9.Low, .int .i64 x9.High]], 0⟩])] rfl rfl rfl (congrArg PV.bool c15) (all1 (VRd.ntl (rd_load1 rfl (getO_N rfl rfl) rfl ta_3 rfl)) all0) ?_
                refine dops_takeW [(low, [⟨24, 8, [.agg [.int .i64 p0.Address, .int .i64 p0.Kind, .int .i64 p0.Target, .int .i64 p0.Offset, .int .i64 p0.Scale, .int .i64 p0.Error, .int .i64 p0.Drift, .int .i64 p0.Life]], 0⟩, ⟨33, 2, [.agg [.int .i64 x9.Low, .int .i64 x9.High]], 0⟩])] rfl rfl rfl (congrArg PV.bool c15) (all1 (VRd.ntl (rd_leq rfl rfl)) all0) ?_
                refine dops_rdW [(low, [⟨24, 8, [.agg [.int .i64 p0.Address, .int .i64 p0.Kind, .int .i64 p0.Target, .int .i64 p0.Offset, .int .i64 p0.Scale, .int .i64 p0.Error, .int .i64 p0.Drift, .int .i64 p0.Life]], 0⟩, ⟨33, 2, [.agg [.int .i64 x9.Low, .int .i64 x9.High]], 0⟩])] rfl rfl (all1 (VRd.ntl (rd_pickT (congrArg PV.bool c15) rfl)) all0) ?_
                refine dops_nil ?_
                obtain rfl := Option.some.inj hF
                refine onlyE ?_
                exact weak_pick rfl [(0, 0)] (by decide) ⟨rn_low rfl (.int _ _), rn_ptr 0 0 rfl rfl, rn_low rfl (.int _ _), rn_low rfl (.bool _), trivial⟩ ⟨⟨_, rfl, rfl, .same _ _ _ _ (ltObj_es ⟨(lt_agg ⟨.int _ _, .int _ _, .int _ _, .int _ _, .int _ _, .int _ _, .int _ _, .int _ _, trivial⟩), trivial⟩)⟩, trivial⟩
              · have hF := bifF c15 hF
                refine vwp_drawn [[], [], [0, 1], [0, 1, 2], [0, 1, 2, 3], [0, 1, 2, 3, 4], [0, 1, 2, 3], [0, 1, 2, 3, 4, 5, 6], [0, 1, 2, 3, 4, 5, 6, 7], [0, 1, 2, 3, 4, 5, 6, 7, 8], [0, 1, 2, 3, 4, 5, 6, 7, 8, 9], [0, 1, 2, 3, 4, 5, 6, 7, 8, 9], [0, 1, 2, 3, 4, 5, 6, 7, 8, 9, 11], [0, 1, 2, 3, 4, 5, 6, 7, 8, 9, 10, 11, 12], [0, 1, 2, 3, 4, 5, 6, 7, 8, 9, 10, 11, 12, 13]] [false, false, false, false, false, false, false, false, false, false, false, false, false, false, false] [(low, [⟨24, 8, [.agg [.int .i64 p0.Address, .int .i64 p0.Kind, .int .i64 p0.Target, .int .i64 p0.Offset, .int .i64 p0.Scale, .int .i64 p0.Error, .int .i64 p0.Drift, .int .i64 p0.Life]], 0⟩, ⟨33, 2, [.agg [.int .i64 x9.Low, .int .i64 x9.High]], 0⟩])] mixed (by kernel_rfl) rfl (lenAll (all1 rfl all0)) rfl (low, [⟨24, 8, [.agg [.int .i64 p0.Address, .int .i64 p0.Kind, .int .i64 p0.Target, .int .i64 p0.Offset, .int .i64 p0.Scale, .int .i64 p0.Error, .int .i64 p0.Drift, .int .i64 p0.Life]], 0⟩, ⟨33, 2, [.agg [.int .i64 x9.Low, .int .i64 x9.High]], 0⟩]) rfl rfl ?_
                refine dops_rdW [(low, [⟨24, 8, [.agg [.int .i64 p0.Address, .int .i64 p0.Kind, .int .i64 p0.Target, .int .i64 p0.Offset, .int .i64 p0.Scale, .int .i64 p0.Error, .int .i64 p0.Drift, .int .i64 p0.Life]], 0⟩, ⟨33, 2, [.agg [.int .i64 x9.Low, .int .i64 x9.High]], 0⟩])] rfl rfl (all1 (VRd.ntl (rd_loadN (ds := [.int .i64 x9.Low, .int .i64 x9.High]) rfl (getO_N rfl rfl) rfl ta_33 ts_33 rfl rfl rfl)) all0) ?_
                refine dops_rdW [(low, [⟨24, 8, [.agg [.int .i64 p0.Address, .int .i64 p0.Kind, .int .i64 p0.Target, .int .i64 p0.Offset, .int .i64 p0.Scale, .int .i64 p0.Error, .int .i64 p0.Drift, .int .i64 p0.Life]], 0⟩, ⟨33, 2, [.agg [.int .i64 x9.Low, .int .i64 x9.High]], 0⟩])] rfl rfl (all1 (nt_of (vef_callP rfl Try.call25 (F_sensor_Nothing_ok h13 _))) all0) ?_
                refine dops_rdW [(low, [⟨24, 8, [.agg [.int .i64 p0.Address, .int .i64 p0.Kind, .int .i64 p0.Target, .int .i64 p0.Offset, .int .i64 p0.Scale, .int .i64 p0.Error, .int .i64 p0.Drift, .int .i64 p0.Life]], 0⟩, ⟨33, 2, [.agg [.int .i64 x9.Low, .int .i64 x9.High]], 0⟩])] rfl rfl (all1 (VRd.ntl (rd_neqV (tab := eqTab) eqTab_ok rfl rfl eqg_33 rfl)) all0) ?_
                refine dops_rdW [(low, [⟨24, 8, [.agg [.int .i64 p0.Address, .int .i64 p0.Kind, .int .i64 p0.Target, .int .i64 p0.Offset, .int .i64 p0.Scale, .int .i64 p0.Error, .int .i64 p0.Drift, .int .i64 p0.Life]], 0⟩, ⟨33, 2, [.agg [.int .i64 x9.Low, .int .i64 x9.High]], 0⟩])] rfl rfl (all1 (VRd.ntl (rd_mvB rfl)) all0) ?_
                refine dops_takeW [(low, [⟨24, 8, [.agg [.int .i64 p0.Address, .int .i64 p0.Kind, .int .i64 p0.Target, .int .i64 p0.Offset, .int .i64 p0.Scale, .int .i64 p0.Error, .int .i64 p0.Drift, .int .i64 p0.Life]], 0⟩, ⟨33, 2, [.agg [.int .i64 x9.Low, .int .i64 x9.High]], 0⟩])] rfl rfl rfl (congrArg PV.bool c14) (all1 (VRd.ntl (rd_fieldAddr rfl tf_33_0 ts_3 (by decide))) all0) ?_
                refine dops_takeW [(low, [⟨24, 8, [.agg [.int .i64 p0.Address, .int .i64 p0.Kind, .int .i64 p0.Target, .int .i64 p0.Offset, .int .i64 p0.Scale, .int .i64 p0.Error, .int .i64 p0.Drift, .int .i64 p0.Life]], 0⟩, ⟨33, 2, [.agg [.int .i64 x9.Low, .int .i64 x9.High]], 0⟩])] rfl rfl rfl (congrArg PV.bool c14) (all1 (VRd.ntl (rd_load1 rfl (getO_N rfl rfl) rfl ta_3 rfl)) all0) ?_
                refine dops_takeW [(low, [⟨24, 8, [.agg [.int .i64 p0.Address, .int .i64 p0.Kind, .int .i64 p0.Target, .int .i64 p0.Offset, .int .i64 p0.Scale, .int .i64 p0.Error, .int .i64 p0.Drift, .int .i64 p0.Life]], 0⟩, ⟨33, 2, [.agg [.int .i64 x9.Low, .int .i64 x9.High]], 0⟩])] rfl rfl rfl (congrArg PV.bool c14) (all1 (VRd.ntl (rd_mvI rfl)) all0) ?_
                refine dops_takeW [(low, [⟨24, 8, [.agg [.int .i64 p0.Address, .int .i64 p0.Kind, .int .i64 p0.Target, .int .i64 p0.Offset, .int .i64 p0.Scale, .int .i64 p0.Error, .int .i64 p0.Drift, .int .i64 p0.Life]], 0⟩, ⟨33, 2, [.agg [.int .i64 x9.Low, .int .i64 x9.High]], 0⟩])] rfl rfl rfl (congrArg PV.bool c14) (all1 (VRd.ntl (rd_leq rfl rfl)) all0) ?_
                refine dops_rdW [(low, [⟨24, 8, [.agg [.int .i64 p0.Address, .int .i64 p0.Kind, .int .i64 p0.Target, .int .i64 p0.Offset, .int .i64 p0.Scale, .int .i64 p0.Error, .int .i64 p0.Drift, .int .i64 p0.Life]], 0⟩, ⟨33, 2, [.agg [.int .i64 x9.Low, .int .i64 x9.High]], 0⟩])] rfl rfl (all1 (VRd.ntl (rd_pickT (congrArg PV.bool c14) rfl)) all0) ?_
                refine dops_rdW [(low, [⟨24, 8, [.agg [.int .i64 p0.Address, .int .i64 p0.Kind, .int .i64 p0.Target, .int .i64 p0.Offset, .int .i64 p0.Scale, .int .i64 p0.Error, .int .i64 p0.Drift, .int .i64 p0.Life]], 0⟩, ⟨33, 2, [.agg [.int .i64 x9.Low, .int .i64 x9.High]], 0⟩])] rfl rfl (all1 (VRd.ntl (rd_mvB rfl)) all0) ?_
                refine dops_skip rfl rfl rfl (neF c15) ?_
                refine dops_skip rfl rfl rfl (neF c15) ?_
                refine dops_skip rfl rfl rfl (neF c15) ?_
                refine dops_skip rfl rfl rfl (neF c15) ?_
                refine dops_rdW [(low, [⟨24, 8, [.agg [.int .i64 p0.Address, .int .i64 p0.Kind, .int .i64 p0.Target, .int .i64 p0.Offset, .int .i64 p0.Scale, .int .i64 p0.Error, .int .i64 p0.Drift, .int .i64 p0.Life]], 0⟩, ⟨33, 2, [.agg [.int .i64 x9.Low, .int .i64 x9.High]], 0⟩])] rfl rfl (all1 (VRd.ntl (rd_pickF (congrArg PV.bool c15) rfl)) all0) ?_
                refine dops_nil ?_
                obtain rfl := Option.some.inj hF
                refine onlyE ?_
                exact weak_pick rfl [(0, 0)] (by decide) ⟨rn_low rfl (.int _ _), rn_ptr 0 0 rfl rfl, rn_low rfl (.int _ _), rn_low rfl (.bool _), trivial⟩ ⟨⟨_, rfl, rfl, .same _ _ _ _ (ltObj_es ⟨(lt_agg ⟨.int _ _, .int _ _, .int _ _, .int _ _, .int _ _, .int _ _, .int _ _, .int _ _, trivial⟩), trivial⟩)⟩, trivial⟩
            · have hF := bifF c14 hF
              refine vwp_drawn [[], [], [0, 1], [0, 1, 2], [0, 1, 2, 3], [0, 1, 2, 3, 4], [0, 1, 2, 3], [0, 1, 2, 3, 4, 5, 6], [0, 1, 2, 3, 4, 5, 6, 7], [0, 1, 2, 3, 4, 5, 6, 7, 8], [0, 1, 2, 3, 4, 5, 6, 7, 8, 9], [0, 1, 2, 3, 4, 5, 6, 7, 8, 9], [0, 1, 2, 3, 4, 5, 6, 7, 8, 9, 11], [0, 1, 2, 3, 4, 5, 6, 7, 8, 9, 10, 11, 12], [0, 1, 2, 3, 4, 5, 6, 7, 8, 9, 10, 11, 12, 13]] [false, false, false, false, false, false, false, false, false, false, false, false, false, false, false] [(low, [⟨24, 8, [.agg [.int .i64 p0.Address, .int .i64 p0.Kind, .int .i64 p0.Target, .int .i64 p0.Offset, .int .i64 p0.Scale, .int .i64 p0.Error, .int .i64 p0.Drift, .int .i64 p0.Life]], 0⟩, ⟨33, 2, [.agg [.int .i64 x9.Low, .int .i64 x9.High]], 0⟩])] mixed (by kernel_rfl) rfl (lenAll (all1 rfl all0)) rfl (low, [⟨24, 8, [.agg [.int .i64 p0.Address, .int .i64 p0.Kind, .int .i64 p0.Target, .int .i64 p0.Offset, .int .i64 p0.Scale, .int .i64 p0.Error, .int .i64 p0.Drift, .int .i64 p0.Life]], 0⟩, ⟨33, 2, [.agg [.int .i64 x9.Low, .int .i64 x9.High]], 0⟩]) rfl rfl ?_
              refine dops_rdW [(low, [⟨24, 8, [.agg [.int .i64 p0.Address, .int .i64 p0.Kind, .int .i64 p0.Target, .int .i64 p0.Offset, .int .i64 p0.Scale, .int .i64 p0.Error, .int .i64 p0.Drift, .int .i64 p0.Life]], 0⟩, ⟨33, 2, [.agg [.int .i64 x9.Low, .int .i64 x9.High]], 0⟩])] rfl rfl (all1 (VRd.ntl (rd_loadN (ds := [.int .i64 x9.Low, .int .i64 x9.High]) rfl (getO_N rfl rfl) rfl ta_33 ts_33 rfl rfl rfl)) all0) ?_
              refine dops_rdW [(low, [⟨24, 8, [.agg [.int .i64 p0.Address, .int .i64 p0.Kind, .int .i64 p0.Target, .int .i64 p0.Offset, .int .i64 p0.Scale, .int .i64 p0.Error, .int .i64 p0.Drift, .int .i64 p0.Life]], 0⟩, ⟨33, 2, [.agg [.int .i64 x9.Low, .int .i64 x9.High]], 0⟩])] rfl rfl (all1 (nt_of (vef_callP rfl Try.call25 (F_sensor_Nothing_ok h13 _))) all0) ?_
              refine dops_rdW [(low, [⟨24, 8, [.agg [.int .i64 p0.Address, .int .i64 p0.Kind, .int .i64 p0.Target, .int .i64 p0.Offset, .int .i64 p0.Scale, .int .i64 p0.Error, .int .i64 p0.Drift, .int .i64 p0.Life]], 0⟩, ⟨33, 2, [.agg [.int .i64 x9.Low, .int .i64 x9.High]], 0⟩])] rfl rfl (all1 (VRd.ntl (rd_neqV (tab := eqTab) eqTab_ok rfl rfl eqg_33 rfl)) all0) ?_
              refine dops_rdW [(low, [⟨24, 8, [.agg [.int .i64 p0.Address, .int .i64 p0.Kind, .int .i64 p0.Target, .int .i64 p0.Offset, .int .i64 p0.Scale, .int .i64 p0.Error, .int .i64 p0.Drift, .int .i64 p0.Life]], 0⟩, ⟨33, 2, [.agg [.int .i64 x9.Low, .int .i64 x9.High]], 0⟩])] rfl rfl (all1 (VRd.ntl (rd_mvB rfl)) all0) ?_
              refine dops_skip rfl rfl rfl (neF c14) ?_
              refine dops_skip rfl rfl rfl (neF c14) ?_
              refine dops_skip rfl rfl rfl (neF c14) ?_
              refine dops_skip rfl rfl rfl (neF c14) ?_
              refine dops_rdW [(low, [⟨24, 8, [.agg [.int .i64 p0.Address, .int .i64 p0.Kind, .int .i64 p0.Target, .int .i64 p0.Offset, .int .i64 p0.Scale, .int .i64 p0.Error, .int .i64 p0.Drift, .int .i64 p0.Life]], 0⟩, ⟨33, 2, [.agg [.int .i64 x9.Low, .int .i64 x9.High]], 0⟩])] rfl rfl (all1 (VRd.ntl (rd_pickF (congrArg PV.bool c14) rfl)) all0) ?_
              refine dops_rdW [(low, [⟨24, 8, [.agg [.int .i64 p0.Address, .int .i64 p0.Kind, .int .i64 p0.Target, .int .i64 p0.Offset, .int .i64 p0.Scale, .int .i64 p0.Error, .int .i64 p0.Drift, .int .i64 p0.Life]], 0⟩, ⟨33, 2, [.agg [.int .i64 x9.Low, .int .i64 x9.High]], 0⟩])] rfl rfl (all1 (VRd.ntl (rd_mvB rfl)) all0) ?_
              refine dops_skip rfl rfl rfl (by decide) ?_
              refine dops_skip rfl rfl rfl (by decide) ?_
              refine dops_skip rfl rfl rfl (by decide) ?_
              refine dops_skip rfl rfl rfl (by decide) ?_
              refine dops_rdW [(low, [⟨24, 8, [.agg [.int .i64 p0.Address, .int .i64 p0.Kind, .int .i64 p0.Target, .int .i64 p0.Offset, .int .i64 p0.Scale, .int .i64 p0.Error, .int .i64 p0.Drift, .int .i64 p0.Life]], 0⟩, ⟨33, 2, [.agg [.int .i64 x9.Low, .int .i64 x9.High]], 0⟩])] rfl rfl (all1 (VRd.ntl (rd_pickF rfl rfl)) all0) ?_
              refine dops_nil ?_
              obtain rfl := Option.some.inj hF
              refine onlyE ?_
              exact weak_pick rfl [(0, 0)] (by decide) ⟨rn_low rfl (.int _ _), rn_ptr 0 0 rfl rfl, rn_low rfl (.int _ _), rn_low rfl (.bool _), trivial⟩ ⟨⟨_, rfl, rfl, .same _ _ _ _ (ltObj_es ⟨(lt_agg ⟨.int _ _, .int _ _, .int _ _, .int _ _, .int _ _, .int _ _, .int _ _, .int _ _, trivial⟩), trivial⟩)⟩, trivial⟩
          · rintro _ _ _ _ ⟨rfl, hw⟩
            refine ⟨_, _, _, hw, ?_⟩
            refine vwp_cond rfl (fun c16 => ?_) (fun c16 => ?_)
            · have hF := bifT c16 hF
              refine vwp_seq ?_
              refine vwp_region ?_
              refine vops_rd (rd_mvI rfl) rfl ?_
              refine vops_rd (rd_asI rfl) rfl ?_
              refine vops_rd (rd_asB rfl) rfl ?_
              refine vops_nil ?_
              refine vwp_ret ?_
              obtain rfl := Option.some.inj hF
              refine onlyE ?_
              exact weak_pick rfl [] (by decide) ⟨rn_low rfl (.int _ _), rn_low rfl (.bool _), trivial⟩ trivial
            · have hF := bifF c16 hF
              refine vwp_skip ?_
              refine vwp_region ?_
              refine vops_rd (rd_mvI rfl) rfl ?_
              refine vops_rd (rd_add rfl rfl rfl) rfl ?_
              refine vops_rd (rd_asI rfl) rfl ?_
              refine vops_nil ?_
              obtain rfl := Option.some.inj hF
              refine onlyE ?_
              exact weak_sub ⟨rfl, rfl, rfl, trivial⟩
        · have hF := bifF c8 hF
          refine vwp_exit ?_
          obtain rfl := Option.some.inj hF
          refine onlyE ?_
          exact weak_pick rfl [] (by decide) trivial trivial
      · rcases o5 with j6 | j7
        · replace hF := elimL hF
          rintro _ _ _ _ ⟨rfl, hw⟩
          refine ⟨_, _, _, hw, ?_⟩
          obtain rfl := Option.some.inj hF
          refine fnR ?_
          exact weak_sub ⟨rfl, rfl, trivial⟩
        · replace hF := elimR hF
          rintro _ _ _ _ ⟨rfl, hw⟩
          refine ⟨_, _, _, hw, ?_⟩
          refine vwp_seq ?_
          refine vwp_region ?_
          refine vops_rd (rd_asI rfl) rfl ?_
          refine vops_rd (rd_asB rfl) rfl ?_
          refine vops_nil ?_
          refine vwp_ret ?_
          obtain rfl := Option.some.inj hF
          refine fnR ?_
          exact weak_sub ⟨rfl, rfl, trivial⟩
  · rintro _ _ _ _ ⟨he, hw⟩
    refine ⟨_, _, _, hw, ?_⟩
    exact bodyQ_pure he [.int .i64 r.1, .bool r.2] ⟨rfl, rfl, trivial⟩ ((lt_tup ⟨.int _ _, .bool _, trivial⟩)) ⟨rfl, rfl⟩

theorem F_ref05_Raw_ok {p0 : T_Sensor} {p1 : Int} {r : Int × Bool} (hF : F_ref05_Raw p0 p1 = some r) (low : List AObj) :
    VCalls Try.prog 27 [.agg [.int .i64 p0.Address, .int .i64 p0.Kind, .int .i64 p0.Target, .int .i64 p0.Offset, .int .i64 p0.Scale, .int .i64 p0.Error, .int .i64 p0.Drift, .int .i64 p0.Life], .int .i64 p1] low fun x low' => x = .tup [.int .i64 r.1, .bool r.2] ∧ low' = low := by
  refine vcalls_of_body (nt := 31) (rs := [.tmp 4, .tmp 5]) Try.func27 rfl rfl (Nat.le_of_ble_eq_true rfl) rfl ?_
  refine vwp_monoW (Q' := FnE (fun E' lw lc => Weak E' lw lc [(4, .int .i64 r.1), (5, .bool r.2)] low [])) ?_ ?_
  · unfold F_ref05_Raw at hF
    refine vwp_seq ?_
    refine vwp_region ?_
    refine vops_efE (vef_boxN rfl rfl (v := .agg [.int .i64 p0.Address, .int .i64 p0.Kind, .int .i64 p0.Target, .int .i64 p0.Offset, .int .i64 p0.Scale, .int .i64 p0.Error, .int .i64 p0.Drift, .int .i64 p0.Life]) rfl rfl (Nat.succ_pos _) rfl rfl) rfl ?_
    refine vops_rd (rd_asI rfl) rfl ?_
    refine vops_rd (rd_asB rfl) rfl ?_
    refine vops_nil ?_
    refine vwp_seq ?_
    refine vwp_seq ?_
    refine vwp_region ?_
    refine vops_rd (rd_asI rfl) rfl ?_
    refine vops_nil ?_
    refine vwp_block ?_
    obtain ⟨o2, ho2, hF⟩ := bnd hF
    refine vwp_monoW (vwp_loopC (F_ref05_Raw_L1 p0 p1) (fun s1 E' lw lc => Weak E' lw lc [(1, .int .i64 p1), (2, .ptr (low.length + 0) 0 0 0), (6, .int .i64 s1)] low [⟨24, 8, [.agg [.int .i64 p0.Address, .int .i64 p0.Kind, .int .i64 p0.Target, .int .i64 p0.Offset, .int .i64 p0.Scale, .int .i64 p0.Error, .int .i64 p0.Drift, .int .i64 p0.Life]], 0⟩]) (Sum.elim (fun j3 => OnlyE .ret (fun E' lw lc => Weak E' lw lc [(4, .int .i64 j3), (5, .bool true)] low [])) (fun j4 => OnlyE (.exit 0) (fun E' lw lc => Weak E' lw lc [] low []))) ho2 ?_ (by rintro (_|_) _ _ _ ⟨h, _⟩ <;> cases h) ?_) ?_
    · exact weak_sub ⟨rfl, rfl, rfl, trivial⟩
    · rintro s1 os1 _ _ _ hF hw
      unfold F_ref05_Raw_L1 at hF
      refine vwp_weak hw ?_
      refine vwp_seq ?_
      refine vwp_seq ?_
      refine vwp_region ?_
      refine vops_rd (rd_mvI rfl) rfl ?_
      refine vops_rd (rd_leq rfl rfl) rfl ?_
      refine vops_nil ?_
      refine vwp_cond rfl (fun c5 => ?_) (fun c5 => ?_)
      · have hF := bifT c5 hF
        refine vwp_skip ?_
        refine vwp_seq ?_
        refine vwp_block ?_
        refine vwp_seq ?_
        refine vwp_region ?_
        obtain ⟨x6, h7, hF⟩ := bnd hF
        refine vops_rd (rd_loadN (ds := [.int .i64 p0.Address, .int .i64 p0.Kind, .int .i64 p0.Target, .int .i64 p0.Offset, .int .i64 p0.Scale, .int .i64 p0.Error, .int .i64 p0.Drift, .int .i64 p0.Life]) rfl (getO_N rfl rfl) rfl ta_24 ts_24 rfl rfl rfl) rfl ?_
        refine vops_rd (rd_mvI rfl) rfl ?_
        refine vops_efE (vef_callP rfl Try.call16 (F_ref05_Value_ok h7 _)) rfl ?_
        refine vops_efE (vef_allocN rfl rfl tz_33 rfl rfl (Nat.succ_pos _) rfl) rfl ?_
        refine vops_efE (vef_store (p := .agg [.int .i64 x6.Low, .int .i64 x6.High]) (e' := .agg [.int .i64 x6.Low, .int .i64 x6.High]) rfl (getO_N rfl rfl) rfl rfl ts_33 rfl (nt_ne rfl) rfl (Nat.le_of_ble_eq_true rfl) rfl (setO_N rfl rfl)) rfl ?_
        refine vops_nil ?_
        refine vwp_seq ?_
        obtain ⟨o8, ho8, hF⟩ := bnd hF
        refine vwp_monoW (Q' := (fun o8 => OnlyE .normal (fun E' lw lc => Weak E' lw lc [(1, .int .i64 p1), (2, .ptr (low.length + 0) 0 0 0), (6, .int .i64 s1), (29, .bool o8)] low [⟨24, 8, [.agg [.int .i64 p0.Address, .int .i64 p0.Kind, .int .i64 p0.Target, .int .i64 p0.Offset, .int .i64 p0.Scale, .int .i64 p0.Error, .int .i64 p0.Drift, .int .i64 p0.Life]], 0⟩])) o8) ?_ ?_
        · replace hF := ho8
          obtain ⟨x9, h10, hF⟩ := bnd hF
          rcases Bool.eq_false_or_eq_true (!((x6.Low == x9.Low) && ((x6.High == x9.High) && true))) with c11 | c11
          · have hF := bifT c11 hF
            rcases Bool.eq_false_or_eq_true (decide (x6.Low ≤ p1)) with c12 | c12
            · have hF := bifT c12 hF
              refine vwp_drawn [[], [], [0, 1], [0, 1, 2], [0, 1, 2, 3], [0, 1, 2, 3, 4], [0, 1, 2, 3], [0, 1, 2, 3, 4, 5, 6], [0, 1, 2, 3, 4, 5, 6, 7], [0, 1, 2, 3, 4, 5, 6, 7, 8], [0, 1, 2, 3, 4, 5, 6, 7, 8, 9], [0, 1, 2, 3, 4, 5, 6, 7, 8, 9], [0, 1, 2, 3, 4, 5, 6, 7, 8, 9, 11], [0, 1, 2, 3, 4, 5, 6, 7, 8, 9, 10, 11, 12], [0, 1, 2, 3, 4, 5, 6, 7, 8, 9, 10, 11, 12, 13]] [false, false, false, false, false, false, false, false, false, false, false, false, false, false, false] [(low, [⟨24, 8, [.agg [.int .i64 p0.Address, .int .i64 p0.Kind, .int .i64 p0.Target, .int .i64 p0.Offset, .int .i64 p0.Scale, .int .i64 p0.Error, .int .i64 p0.Drift, .int .i64 p0.Life]], 0⟩, ⟨33, 2, [.agg [.int .i64 x6.Low, .int .i64 x6.High]], 0⟩])] mixed (by kernel_rfl) rfl (lenAll (all1 rfl all0)) rfl (low, [⟨24, 8, [.agg [.int .i64 p0.Address, .int .i64 p0.Kind, .int .i64 p0.Target, .int .i64 p0.Offset, .int .i64 p0.Scale, .int .i64 p0.Error, .int .i64 p0.Drift, .int .i64 p0.Life]], 0⟩, ⟨33, 2, [.agg [.int .i64 x6.Low, .int .i64 x6.High]], 0⟩]) rfl rfl ?_
              refine dops_rdW [(low, [⟨24, 8, [.agg [.int .i64 p0.Address, .int .i64 p0.Kind, .int .i64 p0.Target, .int .i64 p0.Offset, .int .i64 p0.Scale, .int .i64 p0.Error, .int .i64 p0.Drift, .int .i64 p0.Life]], 0⟩, ⟨33, 2, [.agg [.int .i64 x6.Low, .int .i64 x6.High]], 0⟩])] rfl rfl (all1 (VRd.ntl (rd_loadN (ds := [.int .i64 x6.Low, .int .i64 x6.High]) rfl (getO_N rfl rfl) rfl ta_33 ts_33 rfl rfl rfl)) all0) ?_
              refine dops_rdW [(low, [⟨24, 8, [.agg [.int .i64 p0.Address, .int .i64 p0.Kind, .int .i64 p0.Target, .int .i64 p0.Offset, .int .i64 p0.Scale, .int .i64 p0.Error, .int .i64 p0.Drift, .int .i64 p0.Life]], 0⟩, ⟨33, 2, [.agg [.int .i64 x6.Low, .int .i64 x6.High]], 0⟩])] rfl rfl (all1 (nt_of (vef_callP rfl Try.call30 (F_ref05_Nothing_ok h10 _))) all0) ?_
              refine dops_rdW [(low, [⟨24, 8, [.agg [.int .i64 p0.Address, .int .i64 p0.Kind, .int .i64 p0.Target, .int .i64 p0.Offset, .int .i64 p0.Scale, .int .i64 p0.Error, .int .i64 p0.Drift, .int .i64 p0.Life]], 0⟩, ⟨33, 2, [.agg [.int .i64 x6.Low, .int .i64 x6.High]], 0⟩])] rfl rfl (all1 (VRd.ntl (rd_neqV (tab := eqTab) eqTab_ok rfl rfl eqg_33 rfl)) all0) ?_
              refine dops_rdW [(low, [⟨24, 8, [.agg [.int .i64 p0.Address, .int .i64 p0.Kind, .int .i64 p0.Target, .int .i64 p0.Offset, .int .i64 p0.Scale, .int .i64 p0.Error, .int .i64 p0.Drift, .int .i64 p0.Life]], 0⟩, ⟨33, 2, [.agg [.int .i64 x6.Low, .int .i64 x6.High]], 0⟩])] rfl rfl (all1 (VRd.ntl (rd_mvB rfl)) all0) ?_
              refine dops_takeW [(low, [⟨24, 8, [.agg [.int .i64 p0.Address, .int .i64 p0.Kind, .int .i64 p0.Target, .int .i64 p0.Offset, .int .i64 p0.Scale, .int .i64 p0.Error, .int .i64 p0.Drift, .int .i64 p0.Life]], 0⟩, ⟨33, 2, [.agg [.int .i64 x6.Low, .int .i64 x6.High]], 0⟩])] rfl rfl rfl (congrArg PV.bool c11) (all1 (VRd.ntl (rd_fieldAddr rfl tf_33_0 ts_3 (by decide))) all0) ?_
              refine dops_takeW [(low, [⟨24, 8, [.agg [.int .i64 p0.Address, .int .i64 p0.Kind, .int .i64 p0.Target, .int .i64 p0.Offset, .int .i64 p0.Scale, .int .i64 p0.Error, .int .i64 p0.Drift, .int .i64 p0.Life]], 0⟩, ⟨33, 2, [.agg [.int .i64 x6.Low, .int .i64 x6.High]], 0⟩])] rfl rfl rfl (congrArg PV.bool c11) (all1 (VRd.ntl (rd_load1 rfl (getO_N rfl rfl) rfl ta_3 rfl)) all0) ?_
              refine dops_takeW [(low, [⟨24, 8, [.agg [.int .i64 p0.Address, .int .i64 p0.Kind, .int .i64 p0.Target, .int .i64 p0.Offset, .int .i64 p0.Scale, .int .i64 p0.Error, .int .i64 p0.Drift, .int .i64 p0.Life]], 0⟩, ⟨33, 2, [.agg [.int .i64 x6.Low, .int .i64 x6.High]], 0⟩])] rfl rfl rfl (congrArg PV.bool c11) (all1 (VRd.ntl (rd_mvI rfl)) all0) ?_
              refine dops_takeW [(low, [⟨24, 8, [.agg [.int .i64 p0.Address, .int .i64 p0.Kind, .int .i64 p0.Target, .int .i64 p0.Offset, .int .i64 p0.Scale, .int .i64 p0.Error, .int .i64 p0.Drift, .int .i64 p0.Life]], 0⟩, ⟨33, 2, [.agg [.int .i64 x6.Low, .int .i64 x6.High]], 0⟩])] rfl rfl rfl (congrArg PV.bool c11) (all1 (VRd.ntl (rd_leq rfl rfl)) all0) ?_
              refine dops_rdW [(low, [⟨24, 8, [.agg [.int .i64 p0.Address, .int .i64 p0.Kind, .int .i64 p0.Target, .int .i64 p0.Offset, .int .i64 p0.Scale, .int .i64 p0.Error, .int .i64 p0.Drift, .int .i64 p0.Life]], 0⟩, ⟨33, 2, [.agg [.int .i64 x6.Low, .int .i64 x6.High]], 0⟩])] rfl rfl (all1 (VRd.ntl (rd_pickT (congrArg PV.bool c11) rfl)) all0) ?_
              refine dops_rdW [(low, [⟨24, 8, [.agg [.int .i64 p0.Address, .int .i64 p0.Kind, .int .i64 p0.Target, .int .i64 p0.Offset, .int .i64 p0.Scale, .int .i64 p0.Error, .int .i64 p0.Drift, .int .i64 p0.Life]], 0⟩, ⟨33, 2, [.agg [.int .i64 x6.Low, .int .i64 x6.High]], 0⟩])] rfl rfl (all1 (VRd.ntl (rd_mvB rfl)) all0) ?_
              refine dops_takeW [(low, [⟨24, 8, [.agg [.int .i64 p0.Address, .int .i64 p0.Kind, .int .i64 p0.Target, .int .i64 p0.Offset, .int .i64 p0.Scale, .int .i64 p0.Error, .int .i64 p0.Drift, .int .i64 p0.Life]], 0⟩, ⟨33, 2, [.agg [.int .i64 x6.Low, .int .i64 x6.High]], 0⟩])] rfl rfl rfl (congrArg PV.bool c12) (all1 (VRd.ntl (rd_mvI rfl)) all0) ?_
              refine dops_takeW [(low, [⟨24, 8, [.agg [.int .i64 p0.Address, .int .i64 p0.Kind, .int .i64 p0.Target, .int .i64 p0.Offset, .int .i64 p0.Scale, .int .i64 p0.Error, .int .i64 p0.Drift, .int .i64 p0.Life]], 0⟩, ⟨33, 2, [.agg [.int .i64 x6.Low, .int .i64 x6.High]], 0⟩])] rfl rfl rfl (congrArg PV.bool c12) (all1 (VRd.ntl (rd_fieldAddr rfl tf_33_1 ts_3 (by decide))) all0) ?_
              refine dops_takeW [(low, [⟨24, 8, [.agg [.int .i64 p0.Address, .int .i64 p0.Kind, .int .i64 p0.Target, .int .i64 p0.Offset, .int .i64 p0.Scale, .int .i64 p0.Error, .int .i64 p0.Drift, .int .i64 p0.Life]], 0⟩, ⟨33, 2, [.agg [.int .i64 x6.Low, .int .i64 x6.High]], 0⟩])] rfl rfl rfl (congrArg PV.bool c12) (all1 (VRd.ntl (rd_load1 rfl (getO_N rfl rfl) rfl ta_3 rfl)) all0) ?_
              refine dops_takeW [(low, [⟨24, 8, [.agg [.int .i64 p0.Address, .int .i64 p0.Kind, .int .i64 p0.Target, .int .i64 p0.Offset, .int .i64 p0.Scale, .int .i64 p0.Error, .int .i64 p0.Drift, .int .i64 p0.Life]], 0⟩, ⟨33, 2, [.agg [.int .i64 x6.Low, .int .i64 x6.High]], 0⟩])] rfl rfl rfl (congrArg PV.bool c12) (all1 (VRd.ntl (rd_leq rfl rfl)) all0) ?_
              refine dops_rdW [(low, [⟨24, 8, [.agg [.int .i64 p0.Address, .int .i64 p0.Kind, .int .i64 p0.Target, .int .i64 p0.Offset, .int .i64 p0.Scale, .int .i64 p0.Error, .int .i64 p0.Drift, .int .i64 p0.Life]], 0⟩, ⟨33, 2, [.agg [.int .i64 x6.Low, .int .i64 x6.High]], 0⟩])] rfl rfl (all1 (VRd.ntl (rd_pickT (congrArg PV.bool c12) rfl)) all0) ?_
              refine dops_nil ?_
              obtain rfl := Option.some.inj hF
              refine onlyE ?_
              exact weak_pick rfl [(0, 0)] (by decide) ⟨rn_low rfl (.int _ _), rn_ptr 0 0 rfl rfl, rn_low rfl (.int _ _), rn_low rfl (.bool _), trivial⟩ ⟨⟨_, rfl, rfl, .same _ _ _ _ (ltObj_es ⟨(lt_agg ⟨.int _ _, .int _ _, .int _ _, .int _ _, .int _ _, .int _ _, .int _ _, .int _ _, trivial⟩), trivial⟩)⟩, trivial⟩
            · have hF := bifF c12 hF
              refine vwp_drawn [[], [], [0, 1], [0, 1, 2], [0, 1, 2, 3], [0, 1, 2, 3, 4], [0, 1, 2, 3], [0, 1, 2, 3, 4, 5, 6], [0, 1, 2, 3, 4, 5, 6, 7], [0, 1, 2, 3, 4, 5, 6, 7, 8], [0, 1, 2, 3, 4, 5, 6, 7, 8, 9], [0, 1, 2, 3, 4, 5, 6, 7, 8, 9], [0, 1, 2, 3, 4, 5, 6, 7, 8, 9, 11], [0, 1, 2, 3, 4, 5, 6, 7, 8, 9, 10, 11, 12], [0, 1, 2, 3, 4, 5, 6, 7, 8, 9, 10, 11, 12, 13]] [false, false, false, false, false, false, false, false, false, false, false, false, false, false, false] [(low, [⟨24, 8, [.agg [.int .i64 p0.Address, .int .i64 p0.Kind, .int .i64 p0.Target, .int .i64 p0.Offset, .int .i64 p0.Scale, .int .i64 p0.Error, .int .i64 p0.Drift, .int .i64 p0.Life]], 0⟩, ⟨33, 2, [.agg [.int .i64 x6.Low, .int .i64 x6.High]], 0⟩])] mixed (by kernel_rfl) rfl (lenAll (all1 rfl all0)) rfl (low, [⟨24, 8, [.agg [.int .i64 p0.Address, .int .i64 p0.Kind, .int .i64 p0.Target, .int .i64 p0.Offset, .int .i64 p0.Scale, .int .i64 p0.Error, .int .i64 p0.Drift, .int .i64 p0.Life]], 0⟩, ⟨33, 2, [.agg [.int .i64 x6.Low, .int .i64 x6.High]], 0⟩]) rfl rfl ?_
              refine dops_rdW [(low, [⟨24, 8, [.agg [.int .i64 p0.Address, .int .i64 p0.Kind, .int .i64 p0.Target, .int .i64 p0.Offset, .int .i64 p0.Scale, .int .i64 p0.Error, .int .i64 p0.Drift, .int .i64 p0.Life]], 0⟩, ⟨33, 2, [.agg [.int .i64 x6.Low, .int .i64 x6.High]], 0⟩])] rfl rfl (all1 (VRd.ntl (rd_loadN (ds := [.int .i64 x6.Low, .int .i64 x6.High]) rfl (getO_N rfl rfl) rfl ta_33 ts_33 rfl rfl rfl)) all0) ?_
              refine dops_rdW [(low, [⟨24, 8, [.agg [.int .i64 p0.Address, .int .i64 p0.Kind, .int .i64 p0.Target, .int .i64 p0.Offset, .int .i64 p0.Scale, .int .i64 p0.Error, .int .i64 p0.Drift, .int .i64 p0.Life]], 0⟩, ⟨33, 2, [.agg [.int .i64 x6.Low, .int .i64 x6.High]], 0⟩])] rfl rfl (all1 (nt_of (vef_callP rfl Try.call30 (F_ref05_Nothing_ok h10 _))) all0) ?_
              refine dops_rdW [(low, [⟨24, 8, [.agg [.int .i64 p0.Address, .int .i64 p0.Kind, .int .i64 p0.Target, .int .i64 p0.Offset, .int .i64 p0.Scale, .int .i64 p0.Error, .int .i64 p0.Drift, .int .i64 p0.Life]], 0⟩, ⟨33, 2, [.agg [.int .i64 x6.Low, .int .i64 x6.High]], 0⟩])] rfl rfl (all1 (VRd.ntl (rd_neqV (tab := eqTab) eqTab_ok rfl rfl eqg_33 rfl)) all0) ?_
              refine dops_rdW [(low, [⟨24, 8, [.agg [.int .i64 p0.Address, .int .i64 p0.Kind, .int .i64 p0.Target, .int .i64 p0.Offset, .int .i64 p0.Scale, .int .i64 p0.Error, .int .i64 p0.Drift, .int .i64 p0.Life]], 0⟩, ⟨33, 2, [.agg [.int .i64 x6.Low, .int .i64 x6.High]], 0⟩])] rfl rfl (all1 (VRd.ntl (rd_mvB rfl)) all0) ?_
              refine dops_takeW [(low, [⟨24, 8, [.agg [.int .i64 p0.Address, .int .i64 p0.Kind, .int .i64 p0.Target, .int .i64 p0.Offset, .int .i64 p0.Scale, .int .i64 p0.Error, .int .i64 p0.Drift, .int .i64 p0.Life]], 0⟩, ⟨33, 2, [.agg [.int .i64 x6.Low, .int .i64 x6.High]], 0⟩])] rfl rfl rfl (congrArg PV.bool c11) (all1 (VRd.ntl (rd_fieldAddr rfl tf_33_0 ts_3 (by decide))) all0) ?_
              refine dops_takeW [(low, [⟨24, 8, [.agg [.int .i64 p0.Address, .int .i64 p0.Kind, .int .i64 p0.Target, .int .i64 p0.Offset, .int .i64 p0.Scale, .int .i64 p0.Error, .int .i64 p0.Drift, .int .i64 p0.Life]], 0⟩, ⟨33, 2, [.agg [.int .i64 x6.Low, .int .i64 x6.High]], 0⟩])] rfl rfl rfl (congrArg PV.bool c11) (all1 (VRd.ntl (rd_load1 rfl (getO_N rfl rfl) rfl ta_3 rfl)) all0) ?_
              refine dops_takeW [(low, [⟨24, 8, [.agg [.int .i64 p0.Address, .int .i64 p0.Kind, .int .i64 p0.Target, .int .i64 p0.Offset, .int .i64 p0.Scale, .int .i64 p0.Error, .int .i64 p0.Drift, .int .i64 p0.Life]], 0⟩, ⟨33, 2, [.agg [.int .i64 x6.Low, .int .i64 x6.High]], 0⟩])] rfl rfl rfl (congrArg PV.bool c11) (all1 (VRd.ntl (rd_mvI rfl)) all0) ?_
              refine dops_takeW [(low, [⟨24, 8, [.agg [.int .i64 p0.Address, .int .i64 p0.Kind, .int .i64 p0.Target, .int .i64 p0.Offset, .int .i64 p0.Scale, .int .i64 p0.Error, .int .i64 p0.Drift, .int .i64 p0.Life]], 0⟩, ⟨33, 2, [.agg [.int .i64 x6.Low, .int .i64 x6.High]], 0⟩])] rfl rfl rfl (congrArg PV.bool c11) (all1 (VRd.ntl (rd_leq rfl rfl)) all0) ?_
              refine dops_rdW [(low, [⟨24, 8, [.agg [.int .i64 p0.Address, .int .i64 p0.Kind, .int .i64 p0.Target, .int .i64 p0.Offset, .int .i64 p0.Scale, .int .i64 p0.Error, .int .i64 p0.Drift, .int .i64 p0.Life]], 0⟩, ⟨33, 2, [.agg [.int .i64 x6.Low, .int .i64 x6.High]], 0⟩])] rfl rfl (all1 (VRd.ntl (rd_pickT (congrArg PV.bool c11) rfl)) all0) ?_
              refine dops_rdW [(low, [⟨24, 8, [.agg [.int .i64 p0.Address, .int .i64 p0.Kind, .int .i64 p0.Target, .int .i64 p0.Offset, .int .i64 p0.Scale, .int .i64 p0.Error, .int .i64 p0.Drift, .int .i64 p0.Life]], 0⟩, ⟨33, 2, [.agg [.int .i64 x6.Low, .int .i64 x6.High]], 0⟩])] rfl rfl (all1 (VRd.ntl (rd_mvB rfl)) all0) ?_
              refine dops_skip rfl rfl rfl (neF c12) ?_
              refine dops_skip rfl rfl rfl (neF c12) ?_
              refine dops_skip rfl rfl rfl (neF c12) ?_
              refine dops_skip rfl rfl rfl (neF c12) ?_
              refine dops_rdW [(low, [⟨24, 8, [.agg [.int .i64 p0.Address, .int .i64 p0.Kind, .int .i64 p0.Target, .int .i64 p0.Offset, .int .i64 p0.Scale, .int .i64 p0.Error, .int .i64 p0.Drift, .int .i64 p0.Life]], 0⟩, ⟨33, 2, [.agg [.int .i64 x6.Low, .int .i64 x6.High]], 0⟩])] rfl rfl (all1 (VRd.ntl (rd_pickF (congrArg PV.bool c12) rfl)) all0) ?_
              refine dops_nil ?_
              obtain rfl := Option.some.inj hF
              refine onlyE ?_
              exact weak_pick rfl [(0, 0)] (by decide) ⟨rn_low rfl (.int _ _), rn_ptr 0 0 rfl rfl, rn_low rfl (.int _ _), rn_low rfl (.bool _), trivial⟩ ⟨⟨_, rfl, rfl, .same _ _ _ _ (ltObj_es ⟨(lt_agg ⟨.int _ _, .int _ _, .int _ _, .int _ _, .int _ _, .int _ _, .int _ _, .int _ _, trivial⟩), trivial⟩)⟩, trivial⟩
          · have hF := bifF c11 hF
            refine vwp_drawn [[], [], [0, 1], [0, 1, 2], [0, 1, 2, 3], [0, 1, 2, 3, 4], [0, 1, 2, 3], [0, 1, 2, 3, 4, 5, 6], [0, 1, 2, 3, 4, 5, 6, 7], [0, 1, 2, 3, 4, 5, 6, 7, 8], [0, 1, 2, 3, 4, 5, 6, 7, 8, 9], [0, 1, 2, 3, 4, 5, 6, 7, 8, 9], [0, 1, 2, 3, 4, 5, 6, 7, 8, 9, 11], [0, 1, 2, 3, 4, 5, 6, 7, 8, 9, 10, 11, 12], [0, 1, 2, 3, 4, 5, 6, 7, 8, 9, 10, 11, 12, 13]] [false, false, false, false, false, false, false, false, false, false, false, false, false, false, false] [(low, [⟨24, 8, [.agg [.int .i64 p0.Address, .int .i64 p0.Kind, .int .i64 p0.Target, .int .i64 p0.Offset, .int .i64 p0.Scale, .int .i64 p0.Error, .int .i64 p0.Drift, .int .i64 p0.Life]], 0⟩, ⟨33, 2, [.agg [.int .i64 x6.Low, .int .i64 x6.High]], 0⟩])] mixed (by kernel_rfl) rfl (lenAll (all1 rfl all0)) rfl (low, [⟨24, 8, [.agg [.int .i64 p0.Address, .int .i64 p0.Kind, .int .i64 p0.Target, .int .i64 p0.Offset, .int .i64 p0.Scale, .int .i64 p0.Error, .int .i64 p0.Drift, .int .i64 p0.Life]], 0⟩, ⟨33, 2, [.agg [.int .i64 x6.Low, .int .i64 x6.High]], 0⟩]) rfl rfl ?_
            refine dops_rdW [(low, [⟨24, 8, [.agg [.int .i64 p0.Address, .int .i64 p0.Kind, .int .i64 p0.Target, .int .i64 p0.Offset, .int .i64 p0.Scale, .int .i64 p0.Error, .int .i64 p0.Drift, .int .i64 p0.Life]], 0⟩, ⟨33, 2, [.agg [.int .i64 x6.Low, .int .i64 x6.High]], 0⟩])] rfl rfl (all1 (VRd.ntl (rd_loadN (ds := [.int .i64 x6.Low, .int .i64 x6.High]) rfl (getO_N rfl rfl) rfl ta_33 ts_33 rfl rfl rfl)) all0) ?_
            refine dops_rdW [(low, [⟨24, 8, [.agg [.int .i64 p0.Address, .int .i64 p0.Kind, .int .i64 p0.Target, .int .i64 p0.Offset, .int .i64 p0.Scale, .int .i64 p0.Error, .int .i64 p0.Drift, .int .i64 p0.Life]], 0⟩, ⟨33, 2, [.agg [.int .i64 x6.Low, .int .i64 x6.High]], 0⟩])] rfl rfl (all1 (nt_of (vef_callP rfl Try.call30 (F_ref05_Nothing_ok h10 _))) all0) ?_
            refine dops_rdW [(low, [⟨24, 8, [.agg [.int .i64 p0.Address, .int .i64 p0.Kind, .int .i64 p0.Target, .int .i64 p0.Offset, .int .i64 p0.Scale, .int .i64 p0.Error, .int .i64 p0.Drift, .int .i64 p0.Life]], 0⟩, ⟨33, 2, [.agg [.int .i64 x6.Low, .int .i64 x6.High]], 0⟩])] rfl rfl (all1 (VRd.ntl (rd_neqV (tab := eqTab) eqTab_ok rfl rfl eqg_33 rfl)) all0) ?_
            refine dops_rdW [(low, [⟨24, 8, [.agg [.int .i64 p0.Address, .int .i64 p0.Kind, .int .i64 p0.Target, .int .i64 p0.Offset, .int .i64 p0.Scale, .int .i64 p0.Error, .int .i64 p0.Drift, .int .i64 p0.Life]], 0⟩, ⟨33, 2, [.agg [.int .i64 x6.Low, .int .i64 x6.High]], 0⟩])] rfl rfl (all1 (VRd.ntl (rd_mvB rfl)) all0) ?_
            refine dops_skip rfl rfl rfl (neF c11) ?_
            refine dops_skip rfl rfl rfl (neF c11) ?_
            refine dops_skip rfl rfl rfl (neF c11) ?_
            refine dops_skip rfl rfl rfl (neF c11) ?_
            refine dops_rdW [(low, [⟨24, 8, [.agg [.int .i64 p0.Address, .int .i64 p0.Kind, .int .i64 p0.Target, .int .i64 p0.Offset, .int .i64 p0.Scale, .int .i64 p0.Error, .int .i64 p0.Drift, .int .i64 p0.Life]], 0⟩, ⟨33, 2, [.agg [.int .i64 x6.Low, .int .i64 x6.High]], 0⟩])] rfl rfl (all1 (VRd.ntl (rd_pickF (congrArg PV.bool c11) rfl)) all0) ?_
            refine dops_rdW [(low, [⟨24, 8, [.agg [.int .i64 p0.Address, .int .i64 p0.Kind, .int .i64 p0.Target, .int .i64 p0.Offset, .int .i64 p0.Scale, .int .i64 p0.Error, .int .i64 p0.Drift, .int .i64 p0.Life]], 0⟩, ⟨33, 2, [.agg [.int .i64 x6.Low, .int .i64 x6.High]], 0⟩])] rfl rfl (all1 (VRd.ntl (rd_mvB rfl)) all0) ?_
            refine dops_skip rfl rfl rfl (by decide) ?_
            refine dops_skip rfl rfl rfl (by decide) ?_
            refine dops_skip rfl rfl rfl (by decide) ?_
            refine dops_skip rfl rfl rfl (by decide) ?_
            refine dops_rdW [(low, [⟨24, 8, [.agg [.int .i64 p0.Address, .int .i64 p0.Kind, .int .i64 p0.Target, .int .i64 p0.Offset, .int .i64 p0.Scale, .int .i64 p0.Error, .int .i64 p0.Drift, .int .i64 p0.Life]], 0⟩, ⟨33, 2, [.agg [.int .i64 x6.Low, .int .i64 x6.High]], 0⟩])] rfl rfl (all1 (VRd.ntl (rd_pickF rfl rfl)) all0) ?_
            refine dops_nil ?_
            obtain rfl := Option.some.inj hF
            refine onlyE ?_
            exact weak_pick rfl [(0, 0)] (by decide) ⟨rn_low rfl (.int _ _), rn_ptr 0 0 rfl rfl, rn_low rfl (.int _ _), rn_low rfl (.bool _), trivial⟩ ⟨⟨_, rfl, rfl, .same _ _ _ _ (ltObj_es ⟨(lt_agg ⟨.int _ _, .int _ _, .int _ _, .int _ _, .int _ _, .int _ _, .int _ _, .int _ _, trivial⟩), trivial⟩)⟩, trivial⟩
        · rintro _ _ _ _ ⟨rfl, hw⟩
          refine ⟨_, _, _, hw, ?_⟩
          refine vwp_cond rfl (fun c13 => ?_) (fun c13 => ?_)
          · have hF := bifT c13 hF
            refine vwp_seq ?_
            refine vwp_region ?_
            refine vops_rd (rd_mvI rfl) rfl ?_
            refine vops_rd (rd_asI rfl) rfl ?_
            refine vops_rd (rd_asB rfl) rfl ?_
            refine vops_nil ?_
            refine vwp_ret ?_
            obtain rfl := Option.some.inj hF
            refine onlyE ?_
            exact weak_pick rfl [] (by decide) ⟨rn_low rfl (.int _ _), rn_low rfl (.bool _), trivial⟩ trivial
          · have hF := bifF c13 hF
            refine vwp_skip ?_
            refine vwp_region ?_
            refine vops_rd (rd_mvI rfl) rfl ?_
            refine vops_rd (rd_add rfl rfl rfl) rfl ?_
            refine vops_rd (rd_asI rfl) rfl ?_
            refine vops_nil ?_
            obtain rfl := Option.some.inj hF
            refine onlyE ?_
            exact weak_sub ⟨rfl, rfl, rfl, trivial⟩
      · have hF := bifF c5 hF
        refine vwp_exit ?_
        obtain rfl := Option.some.inj hF
        refine onlyE ?_
        exact weak_pick rfl [] (by decide) trivial trivial
    · rcases o2 with j3 | j4
      · replace hF := elimL hF
        rintro _ _ _ _ ⟨rfl, hw⟩
        refine ⟨_, _, _, hw, ?_⟩
        obtain rfl := Option.some.inj hF
        refine fnR ?_
        exact weak_sub ⟨rfl, rfl, trivial⟩
      · replace hF := elimR hF
        rintro _ _ _ _ ⟨rfl, hw⟩
        refine ⟨_, _, _, hw, ?_⟩
        refine vwp_seq ?_
        refine vwp_region ?_
        refine vops_rd (rd_asI rfl) rfl ?_
        refine vops_rd (rd_asB rfl) rfl ?_
        refine vops_nil ?_
        refine vwp_ret ?_
        obtain rfl := Option.some.inj hF
        refine fnR ?_
        exact weak_sub ⟨rfl, rfl, trivial⟩
  · rintro _ _ _ _ ⟨he, hw⟩
    refine ⟨_, _, _, hw, ?_⟩
    exact bodyQ_pure he [.int .i64 r.1, .bool r.2] ⟨rfl, rfl, trivial⟩ ((lt_tup ⟨.int _ _, .bool _, trivial⟩)) ⟨rfl, rfl⟩

theorem F_law05_SensorRaw_ok {p0 : List Int} {p1 : Int} {p2 : Int} {r : Bool} (hF : F_law05_SensorRaw p0 p1 p2 = some r) (low : List AObj) :
    VCalls Try.prog 8 [.vs 1 (List.map (PV.int .u8) p0), .int .i64 p1, .int .i64 p2] low fun x low' => x = .bool r ∧ low' = low := by
  refine vcalls_of_body (nt := 42) (rs := [.tmp 6]) Try.func8 rfl rfl (Nat.le_of_ble_eq_true rfl) rfl ?_
  refine vwp_monoW (Q' := FnE (fun E' lw lc => Weak E' lw lc [(6, .bool r)] low [])) ?_ ?_
  · unfold F_law05_SensorRaw at hF
    refine vwp_seq ?_
    refine vwp_region ?_
    refine vops_rd (rd_asB rfl) rfl ?_
    refine vops_nil ?_
    refine vwp_seq ?_
    refine vwp_region ?_
    obtain ⟨x1, h2, hF⟩ := bnd hF
    refine vops_rd (rd_mvV rfl) rfl ?_
    refine vops_rd (rd_mvI rfl) rfl ?_
    refine vops_efE (vef_callP rfl Try.call10 (F_law05_made_ok h2 _)) rfl ?_
    refine vops_efE (vef_allocN rfl rfl tz_24 rfl rfl (Nat.succ_pos _) rfl) rfl ?_
    refine vops_efE (vef_store (p := .agg [.int .i64 x1.Address, .int .i64 x1.Kind, .int .i64 x1.Target, .int .i64 x1.Offset, .int .i64 x1.Scale, .int .i64 x1.Error, .int .i64 x1.Drift, .int .i64 x1.Life]) (e' := .agg [.int .i64 x1.Address, .int .i64 x1.Kind, .int .i64 x1.Target, .int .i64 x1.Offset, .int .i64 x1.Scale, .int .i64 x1.Error, .int .i64 x1.Drift, .int .i64 x1.Life]) rfl (getO_N rfl rfl) rfl rfl ts_24 rfl (nt_ne rfl) rfl (Nat.le_of_ble_eq_true rfl) rfl (setO_N rfl rfl)) rfl ?_
    refine vops_nil ?_
    refine vwp_seq ?_
    refine vwp_region ?_
    obtain ⟨x3, h4, hF⟩ := bnd hF
    refine vops_rd (rd_mvI rfl) rfl ?_
    refine vops_efE (vef_callP rfl Try.call14 (F_draw_Mod_ok h4 _)) rfl ?_
    refine vops_rd (rd_sub rfl rfl rfl) rfl ?_
    refine vops_rd (rd_asI rfl) rfl ?_
    refine vops_nil ?_
    refine vwp_seq ?_
    refine vwp_region ?_
    obtain ⟨x5, h6, hF⟩ := bnd hF
    refine vops_rd (rd_loadN (ds := [.int .i64 x1.Address, .int .i64 x1.Kind, .int .i64 x1.Target, .int .i64 x1.Offset, .int .i64 x1.Scale, .int .i64 x1.Error, .int .i64 x1.Drift, .int .i64 x1.Life]) rfl (getO_N rfl rfl) rfl ta_24 ts_24 rfl rfl rfl) rfl ?_
    refine vops_rd (rd_mvI rfl) rfl ?_
    refine vops_efE (vef_callP rfl Try.call26 (F_sensor_Raw_ok h6 _)) rfl ?_
    refine vops_rd (rd_mvT rfl) rfl ?_
    refine vops_rd (rd_extract rfl rfl) rfl ?_
    refine vops_rd (rd_extract rfl rfl) rfl ?_
    refine vops_rd (rd_asI rfl) rfl ?_
    refine vops_rd (rd_asB rfl) rfl ?_
    refine vops_nil ?_
    refine vwp_seq ?_
    refine vwp_region ?_
    obtain ⟨x7, h8, hF⟩ := bnd hF
    refine vops_rd (rd_loadN (ds := [.int .i64 x1.Address, .int .i64 x1.Kind, .int .i64 x1.Target, .int .i64 x1.Offset, .int .i64 x1.Scale, .int .i64 x1.Error, .int .i64 x1.Drift, .int .i64 x1.Life]) rfl (getO_N rfl rfl) rfl ta_24 ts_24 rfl rfl rfl) rfl ?_
    refine vops_rd (rd_mvI rfl) rfl ?_
    refine vops_efE (vef_callP rfl Try.call27 (F_ref05_Raw_ok h8 _)) rfl ?_
    refine vops_rd (rd_mvT rfl) rfl ?_
    refine vops_rd (rd_extract rfl rfl) rfl ?_
    refine vops_rd (rd_extract rfl rfl) rfl ?_
    refine vops_rd (rd_asI rfl) rfl ?_
    refine vops_rd (rd_asB rfl) rfl ?_
    refine vops_nil ?_
    refine vwp_seq ?_
    refine vwp_region ?_
    rcases Bool.eq_false_or_eq_true (decide (x5.1 = x7.1)) with c9 | c9
    · have hF := bifT c9 hF
      rcases Bool.eq_false_or_eq_true (x5.2 == x7.2) with c10 | c10
      · have hF := bifT c10 hF
        obtain ⟨x11, h12, hF⟩ := bnd hF
        refine vops_rd (rd_mvI rfl) rfl ?_
        refine vops_rd (rd_mvI rfl) rfl ?_
        refine vops_rd (rd_eql rfl rfl) rfl ?_
        refine vops_rd (rd_mvB rfl) rfl ?_
        refine vops_take rfl (congrArg PV.bool c9) ?_
        refine vops_rd (rd_mvB rfl) rfl ?_
        refine vops_take rfl (congrArg PV.bool c9) ?_
        refine vops_rd (rd_mvB rfl) rfl ?_
        refine vops_take rfl (congrArg PV.bool c9) ?_
        refine vops_rd (rd_eqlB rfl rfl tbo_4) rfl ?_
        refine vops_rd (rd_pickT (congrArg PV.bool c9) rfl) rfl ?_
        refine vops_rd (rd_mvB rfl) rfl ?_
        refine vops_take rfl (congrArg PV.bool c10) ?_
        refine vops_efE (vef_callP rfl Try.call13 (F_law05_awake_ok h12 _)) rfl ?_
        refine vops_rd (rd_pickT (congrArg PV.bool c10) rfl) rfl ?_
        refine vops_rd (rd_asB rfl) rfl ?_
        refine vops_nil ?_
        refine vwp_ret ?_
        obtain rfl := Option.some.inj hF
        refine fnR ?_
        exact weak_pick rfl [] (by decide) ⟨rn_low rfl (.bool _), trivial⟩ trivial
      · have hF := bifF c10 hF
        refine vops_rd (rd_mvI rfl) rfl ?_
        refine vops_rd (rd_mvI rfl) rfl ?_
        refine vops_rd (rd_eql rfl rfl) rfl ?_
        refine vops_rd (rd_mvB rfl) rfl ?_
        refine vops_take rfl (congrArg PV.bool c9) ?_
        refine vops_rd (rd_mvB rfl) rfl ?_
        refine vops_take rfl (congrArg PV.bool c9) ?_
        refine vops_rd (rd_mvB rfl) rfl ?_
        refine vops_take rfl (congrArg PV.bool c9) ?_
        refine vops_rd (rd_eqlB rfl rfl tbo_4) rfl ?_
        refine vops_rd (rd_pickT (congrArg PV.bool c9) rfl) rfl ?_
        refine vops_rd (rd_mvB rfl) rfl ?_
        refine vops_skip rfl rfl (neF c10) rfl ?_
        refine vops_rd (rd_pickF (congrArg PV.bool c10) rfl) rfl ?_
        refine vops_rd (rd_asB rfl) rfl ?_
        refine vops_nil ?_
        refine vwp_ret ?_
        obtain rfl := Option.some.inj hF
        refine fnR ?_
        exact weak_pick rfl [] (by decide) ⟨rn_low rfl (.bool _), trivial⟩ trivial
    · have hF := bifF c9 hF
      refine vops_rd (rd_mvI rfl) rfl ?_
      refine vops_rd (rd_mvI rfl) rfl ?_
      refine vops_rd (rd_eql rfl rfl) rfl ?_
      refine vops_rd (rd_mvB rfl) rfl ?_
      refine vops_skip rfl rfl (neF c9) rfl ?_
      refine vops_skip rfl rfl (neF c9) rfl ?_
      refine vops_skip rfl rfl (neF c9) rfl ?_
      refine vops_rd (rd_pickF (congrArg PV.bool c9) rfl) rfl ?_
      refine vops_rd (rd_mvB rfl) rfl ?_
      refine vops_skip rfl rfl (by decide) rfl ?_
      refine vops_rd (rd_pickF rfl rfl) rfl ?_
      refine vops_rd (rd_asB rfl) rfl ?_
      refine vops_nil ?_
      refine vwp_ret ?_
      obtain rfl := Option.some.inj hF
      refine fnR ?_
      exact weak_pick rfl [] (by decide) ⟨rn_low rfl (.bool _), trivial⟩ trivial
  · rintro _ _ _ _ ⟨he, hw⟩
    refine ⟨_, _, _, hw, ?_⟩
    exact bodyQ_pure he [.bool r] ⟨rfl, trivial⟩ (.bool _) ⟨rfl, rfl⟩

theorem F_law05_SensorBack_ok {p0 : List Int} {p1 : Int} {r : Bool} (hF : F_law05_SensorBack p0 p1 = some r) (low : List AObj) :
    VCalls Try.prog 9 [.vs 1 (List.map (PV.int .u8) p0), .int .u16 p1] low fun x low' => x = .bool r ∧ low' = low := by
  refine vcalls_of_body (nt := 82) (rs := [.tmp 4]) Try.func9 rfl rfl (Nat.le_of_ble_eq_true rfl) rfl ?_
  refine vwp_monoW (Q' := FnE (fun E' lw lc => Weak E' lw lc [(4, .bool r)] low [])) ?_ ?_
  · unfold F_law05_SensorBack at hF
    refine vwp_seq ?_
    refine vwp_region ?_
    refine vops_rd (rd_asB rfl) rfl ?_
    refine vops_nil ?_
    refine vwp_seq ?_
    refine vwp_region ?_
    obtain ⟨x1, h2, hF⟩ := bnd hF
    refine vops_rd (rd_mvV rfl) rfl ?_
    refine vops_efE (vef_callN (r := .ptr (low.length + 0) 0 0 0) (os := [⟨64, 2, [.agg [.vs 1 (List.map (PV.int .u8) x1.l), .int .i64 x1.at_]], 0⟩]) rfl Try.call17 (F_draw_New_ok h2 _ (len_app rfl rfl))) rfl ?_
    refine vops_rd (rd_asP rfl) rfl ?_
    refine vops_nil ?_
    refine vwp_seq ?_
    refine vwp_region ?_
    obtain ⟨x3, h4, hF⟩ := bnd hF
    obtain ⟨x5, h6, hF⟩ := bnd hF
    refine vops_rd (rd_mvP rfl) rfl ?_
    refine vops_rd (rd_mvP rfl) rfl ?_
    refine vops_efE (vef_callMN (k := 0) (loc1 := [⟨64, 2, [.agg [.vs 1 (List.map (PV.int .u8) x3.1.l), .int .i64 x3.1.at_]], 0⟩]) rfl rfl Try.call19 (F_draw_Codes_Range_ok h4 (get_N rfl rfl)) rfl) rfl ?_
    refine vops_efE (vef_callMN (k := 0) (loc1 := [⟨64, 2, [.agg [.vs 1 (List.map (PV.int .u8) x5.1.l), .int .i64 x5.1.at_]], 0⟩]) rfl rfl Try.call18 (F_draw_Codes_Sensor_ok h6 (get_N rfl rfl)) rfl) rfl ?_
    refine vops_efE (vef_allocN rfl rfl tz_24 rfl rfl (Nat.succ_pos _) rfl) rfl ?_
    refine vops_efE (vef_store (p := .agg [.int .i64 x5.2.Address, .int .i64 x5.2.Kind, .int .i64 x5.2.Target, .int .i64 x5.2.Offset, .int .i64 x5.2.Scale, .int .i64 x5.2.Error, .int .i64 x5.2.Drift, .int .i64 x5.2.Life]) (e' := .agg [.int .i64 x5.2.Address, .int .i64 x5.2.Kind, .int .i64 x5.2.Target, .int .i64 x5.2.Offset, .int .i64 x5.2.Scale, .int .i64 x5.2.Error, .int .i64 x5.2.Drift, .int .i64 x5.2.Life]) rfl (getO_N rfl rfl) rfl rfl ts_24 rfl (nt_ne rfl) rfl (Nat.le_of_ble_eq_true rfl) rfl (setO_N rfl rfl)) rfl ?_
    refine vops_nil ?_
    refine vwp_seq ?_
    refine vwp_region ?_
    refine vops_rd (rd_mvI rfl) rfl ?_
    refine vops_rd (rd_conv rfl us_50 ti_3 rfl) rfl ?_
    refine vops_rd (rd_rem rfl rfl (by decide) rfl) rfl ?_
    refine vops_rd (rd_asI rfl) rfl ?_
    refine vops_nil ?_
    refine vwp_seq ?_
    refine vwp_region ?_
    obtain ⟨x7, h8, hF⟩ := bnd hF
    refine vops_rd (rd_loadN (ds := [.int .i64 x5.2.Address, .int .i64 x5.2.Kind, .int .i64 x5.2.Target, .int .i64 x5.2.Offset, .int .i64 x5.2.Scale, .int .i64 x5.2.Error, .int .i64 x5.2.Drift, .int .i64 x5.2.Life]) rfl (getO_N rfl rfl) rfl ta_24 ts_24 rfl rfl rfl) rfl ?_
    refine vops_rd (rd_mvI rfl) rfl ?_
    refine vops_efE (vef_callP rfl Try.call15 (F_sensor_Value_ok h8 _)) rfl ?_
    refine vops_efE (vef_allocN rfl rfl tz_33 rfl rfl (Nat.succ_pos _) rfl) rfl ?_
    refine vops_efE (vef_store (p := .agg [.int .i64 x7.Low, .int .i64 x7.High]) (e' := .agg [.int .i64 x7.Low, .int .i64 x7.High]) rfl (getO_N rfl rfl) rfl rfl ts_33 rfl (nt_ne rfl) rfl (Nat.le_of_ble_eq_true rfl) rfl (setO_N rfl rfl)) rfl ?_
    refine vops_nil ?_
    refine vwp_seq ?_
    refine vwp_region ?_
    obtain ⟨x9, h10, hF⟩ := bnd hF
    refine vops_rd (rd_loadN (ds := [.int .i64 x5.2.Address, .int .i64 x5.2.Kind, .int .i64 x5.2.Target, .int .i64 x5.2.Offset, .int .i64 x5.2.Scale, .int .i64 x5.2.Error, .int .i64 x5.2.Drift, .int .i64 x5.2.Life]) rfl (getO_N rfl rfl) rfl ta_24 ts_24 rfl rfl rfl) rfl ?_
    refine vops_rd (rd_fieldAddr rfl tf_33_0 ts_3 (by decide)) rfl ?_
    refine vops_rd (rd_load1 rfl (getO_N rfl rfl) rfl ta_3 rfl) rfl ?_
    refine vops_efE (vef_callP rfl Try.call26 (F_sensor_Raw_ok h10 _)) rfl ?_
    refine vops_rd (rd_mvT rfl) rfl ?_
    refine vops_rd (rd_extract rfl rfl) rfl ?_
    refine vops_rd (rd_extract rfl rfl) rfl ?_
    refine vops_rd (rd_asI rfl) rfl ?_
    refine vops_rd (rd_asB rfl) rfl ?_
    refine vops_nil ?_
    refine vwp_seq ?_
    refine vwp_seq ?_
    obtain ⟨o11, ho11, hF⟩ := bnd hF
    refine vwp_monoW (Q' := (fun o11 => OnlyE .normal (fun E' lw lc => Weak E' lw lc [(6, .ptr (low.length + 0) 0 0 0), (8, .ptr (low.length + 1) 0 0 0), (9, .int .i64 x9.1), (41, .bool o11)] low [⟨24, 8, [.agg [.int .i64 x5.2.Address, .int .i64 x5.2.Kind, .int .i64 x5.2.Target, .int .i64 x5.2.Offset, .int .i64 x5.2.Scale, .int .i64 x5.2.Error, .int .i64 x5.2.Drift, .int .i64 x5.2.Life]], 0⟩, ⟨33, 2, [.agg [.int .i64 x7.Low, .int .i64 x7.High]], 0⟩])) o11) ?_ ?_
    · replace hF := ho11
      refine vwp_region ?_
      rcases Bool.eq_false_or_eq_true (!x9.2) with c12 | c12
      · have hF := bifT c12 hF
        refine vops_rd (rd_mvB rfl) rfl ?_
        refine vops_rd (rd_not rfl) rfl ?_
        refine vops_rd (rd_mvB rfl) rfl ?_
        refine vops_skip rfl rfl (neT c12) rfl ?_
        refine vops_skip rfl rfl (neT c12) rfl ?_
        refine vops_skip rfl rfl (neT c12) rfl ?_
        refine vops_rd (rd_pickT (congrArg PV.bool c12) rfl) rfl ?_
        refine vops_rd (rd_mvB rfl) rfl ?_
        refine vops_skip rfl rfl (by decide) rfl ?_
        refine vops_skip rfl rfl (by decide) rfl ?_
        refine vops_rd (rd_pickT rfl rfl) rfl ?_
        refine vops_nil ?_
        obtain rfl := Option.some.inj hF
        refine onlyE ?_
        exact weak_pick rfl [(1, 0), (2, 0)] (by decide) ⟨rn_ptr 0 1 rfl rfl, rn_ptr 1 2 rfl rfl, rn_low rfl (.int _ _), rn_low rfl (.bool _), trivial⟩ ⟨⟨_, rfl, rfl, .same _ _ _ _ (ltObj_es ⟨(lt_agg ⟨.int _ _, .int _ _, .int _ _, .int _ _, .int _ _, .int _ _, .int _ _, .int _ _, trivial⟩), trivial⟩)⟩, ⟨_, rfl, rfl, .same _ _ _ _ (ltObj_es ⟨(lt_agg ⟨.int _ _, .int _ _, trivial⟩), trivial⟩)⟩, trivial⟩
      · have hF := bifF c12 hF
        rcases Bool.eq_false_or_eq_true (decide ((Int.tmod (IntKind.i64.wrap p1) 500) < x9.1)) with c13 | c13
        · have hF := bifT c13 hF
          refine vops_rd (rd_mvB rfl) rfl ?_
          refine vops_rd (rd_not rfl) rfl ?_
          refine vops_rd (rd_mvB rfl) rfl ?_
          refine vops_take rfl (congrArg PV.bool c12) ?_
          refine vops_rd (rd_mvI rfl) rfl ?_
          refine vops_take rfl (congrArg PV.bool c12) ?_
          refine vops_rd (rd_mvI rfl) rfl ?_
          refine vops_take rfl (congrArg PV.bool c12) ?_
          refine vops_rd (rd_gtr rfl rfl) rfl ?_
          refine vops_rd (rd_pickF (congrArg PV.bool c12) rfl) rfl ?_
          refine vops_rd (rd_mvB rfl) rfl ?_
          refine vops_skip rfl rfl (neT c13) rfl ?_
          refine vops_skip rfl rfl (neT c13) rfl ?_
          refine vops_rd (rd_pickT (congrArg PV.bool c13) rfl) rfl ?_
          refine vops_nil ?_
          obtain rfl := Option.some.inj hF
          refine onlyE ?_
          exact weak_pick rfl [(1, 0), (2, 0)] (by decide) ⟨rn_ptr 0 1 rfl rfl, rn_ptr 1 2 rfl rfl, rn_low rfl (.int _ _), rn_low rfl (.bool _), trivial⟩ ⟨⟨_, rfl, rfl, .same _ _ _ _ (ltObj_es ⟨(lt_agg ⟨.int _ _, .int _ _, .int _ _, .int _ _, .int _ _, .int _ _, .int _ _, .int _ _, trivial⟩), trivial⟩)⟩, ⟨_, rfl, rfl, .same _ _ _ _ (ltObj_es ⟨(lt_agg ⟨.int _ _, .int _ _, trivial⟩), trivial⟩)⟩, trivial⟩
        · have hF := bifF c13 hF
          refine vops_rd (rd_mvB rfl) rfl ?_
          refine vops_rd (rd_not rfl) rfl ?_
          refine vops_rd (rd_mvB rfl) rfl ?_
          refine vops_take rfl (congrArg PV.bool c12) ?_
          refine vops_rd (rd_mvI rfl) rfl ?_
          refine vops_take rfl (congrArg PV.bool c12) ?_
          refine vops_rd (rd_mvI rfl) rfl ?_
          refine vops_take rfl (congrArg PV.bool c12) ?_
          refine vops_rd (rd_gtr rfl rfl) rfl ?_
          refine vops_rd (rd_pickF (congrArg PV.bool c12) rfl) rfl ?_
          refine vops_rd (rd_mvB rfl) rfl ?_
          refine vops_take rfl (congrArg PV.bool c13) ?_
          refine vops_rd (rd_mvI rfl) rfl ?_
          refine vops_take rfl (congrArg PV.bool c13) ?_
          refine vops_rd (rd_lss rfl rfl) rfl ?_
          refine vops_rd (rd_pickF (congrArg PV.bool c13) rfl) rfl ?_
          refine vops_nil ?_
          obtain rfl := Option.some.inj hF
          refine onlyE ?_
          exact weak_pick rfl [(1, 0), (2, 0)] (by decide) ⟨rn_ptr 0 1 rfl rfl, rn_ptr 1 2 rfl rfl, rn_low rfl (.int _ _), rn_low rfl (.bool _), trivial⟩ ⟨⟨_, rfl, rfl, .same _ _ _ _ (ltObj_es ⟨(lt_agg ⟨.int _ _, .int _ _, .int _ _, .int _ _, .int _ _, .int _ _, .int _ _, .int _ _, trivial⟩), trivial⟩)⟩, ⟨_, rfl, rfl, .same _ _ _ _ (ltObj_es ⟨(lt_agg ⟨.int _ _, .int _ _, trivial⟩), trivial⟩)⟩, trivial⟩
    · rintro _ _ _ _ ⟨rfl, hw⟩
      refine ⟨_, _, _, hw, ?_⟩
      refine vwp_cond rfl (fun c14 => ?_) (fun c14 => ?_)
      · have hF := bifT c14 hF
        refine vwp_seq ?_
        refine vwp_region ?_
        refine vops_rd (rd_asB rfl) rfl ?_
        refine vops_nil ?_
        refine vwp_ret ?_
        obtain rfl := Option.some.inj hF
        refine fnR ?_
        exact weak_pick rfl [] (by decide) ⟨rn_low rfl (.bool _), trivial⟩ trivial
      · have hF := bifF c14 hF
        refine vwp_skip ?_
        refine vwp_seq ?_
        refine vwp_region ?_
        obtain ⟨x15, h16, hF⟩ := bnd hF
        refine vops_rd (rd_loadN (ds := [.int .i64 x5.2.Address, .int .i64 x5.2.Kind, .int .i64 x5.2.Target, .int .i64 x5.2.Offset, .int .i64 x5.2.Scale, .int .i64 x5.2.Error, .int .i64 x5.2.Drift, .int .i64 x5.2.Life]) rfl (getO_N rfl rfl) rfl ta_24 ts_24 rfl rfl rfl) rfl ?_
        refine vops_rd (rd_mvI rfl) rfl ?_
        refine vops_efE (vef_callP rfl Try.call15 (F_sensor_Value_ok h16 _)) rfl ?_
        refine vops_efE (vef_allocN rfl rfl tz_33 rfl rfl (Nat.succ_pos _) rfl) rfl ?_
        refine vops_efE (vef_store (p := .agg [.int .i64 x15.Low, .int .i64 x15.High]) (e' := .agg [.int .i64 x15.Low, .int .i64 x15.High]) rfl (getO_N rfl rfl) rfl rfl ts_33 rfl (nt_ne rfl) rfl (Nat.le_of_ble_eq_true rfl) rfl (setO_N rfl rfl)) rfl ?_
        refine vops_nil ?_
        refine vwp_seq ?_
        refine vwp_seq ?_
        obtain ⟨o17, ho17, hF⟩ := bnd hF
        refine vwp_monoW (Q' := (fun o17 => OnlyE .normal (fun E' lw lc => Weak E' lw lc [(6, .ptr (low.length + 0) 0 0 0), (8, .ptr (low.length + 1) 0 0 0), (9, .int .i64 x9.1), (56, .bool o17)] low [⟨24, 8, [.agg [.int .i64 x5.2.Address, .int .i64 x5.2.Kind, .int .i64 x5.2.Target, .int .i64 x5.2.Offset, .int .i64 x5.2.Scale, .int .i64 x5.2.Error, .int .i64 x5.2.Drift, .int .i64 x5.2.Life]], 0⟩, ⟨33, 2, [.agg [.int .i64 x7.Low, .int .i64 x7.High]], 0⟩])) o17) ?_ ?_
        · replace hF := ho17
          refine vwp_region ?_
          rcases Bool.eq_false_or_eq_true (decide (x7.Low < x15.Low)) with c18 | c18
          · have hF := bifT c18 hF
            refine vops_rd (rd_fieldAddr rfl tf_33_0 ts_3 (by decide)) rfl ?_
            refine vops_rd (rd_load1 rfl (getO_N rfl rfl) rfl ta_3 rfl) rfl ?_
            refine vops_rd (rd_fieldAddr rfl tf_33_0 ts_3 (by decide)) rfl ?_
            refine vops_rd (rd_load1 rfl (getO_N rfl rfl) rfl ta_3 rfl) rfl ?_
            refine vops_rd (rd_gtr rfl rfl) rfl ?_
            refine vops_rd (rd_mvB rfl) rfl ?_
            refine vops_skip rfl rfl (neT c18) rfl ?_
            refine vops_skip rfl rfl (neT c18) rfl ?_
            refine vops_skip rfl rfl (neT c18) rfl ?_
            refine vops_skip rfl rfl (neT c18) rfl ?_
            refine vops_skip rfl rfl (neT c18) rfl ?_
            refine vops_rd (rd_pickT (congrArg PV.bool c18) rfl) rfl ?_
            refine vops_nil ?_
            obtain rfl := Option.some.inj hF
            refine onlyE ?_
            exact weak_pick rfl [(0, 0), (1, 0)] (by decide) ⟨rn_ptr 0 0 rfl rfl, rn_ptr 1 1 rfl rfl, rn_low rfl (.int _ _), rn_low rfl (.bool _), trivial⟩ ⟨⟨_, rfl, rfl, .same _ _ _ _ (ltObj_es ⟨(lt_agg ⟨.int _ _, .int _ _, .int _ _, .int _ _, .int _ _, .int _ _, .int _ _, .int _ _, trivial⟩), trivial⟩)⟩, ⟨_, rfl, rfl, .same _ _ _ _ (ltObj_es ⟨(lt_agg ⟨.int _ _, .int _ _, trivial⟩), trivial⟩)⟩, trivial⟩
          · have hF := bifF c18 hF
            refine vops_rd (rd_fieldAddr rfl tf_33_0 ts_3 (by decide)) rfl ?_
            refine vops_rd (rd_load1 rfl (getO_N rfl rfl) rfl ta_3 rfl) rfl ?_
            refine vops_rd (rd_fieldAddr rfl tf_33_0 ts_3 (by decide)) rfl ?_
            refine vops_rd (rd_load1 rfl (getO_N rfl rfl) rfl ta_3 rfl) rfl ?_
            refine vops_rd (rd_gtr rfl rfl) rfl ?_
            refine vops_rd (rd_mvB rfl) rfl ?_
            refine vops_take rfl (congrArg PV.bool c18) ?_
            refine vops_rd (rd_fieldAddr rfl tf_33_1 ts_3 (by decide)) rfl ?_
            refine vops_take rfl (congrArg PV.bool c18) ?_
            refine vops_rd (rd_load1 rfl (getO_N rfl rfl) rfl ta_3 rfl) rfl ?_
            refine vops_take rfl (congrArg PV.bool c18) ?_
            refine vops_rd (rd_fieldAddr rfl tf_33_0 ts_3 (by decide)) rfl ?_
            refine vops_take rfl (congrArg PV.bool c18) ?_
            refine vops_rd (rd_load1 rfl (getO_N rfl rfl) rfl ta_3 rfl) rfl ?_
            refine vops_take rfl (congrArg PV.bool c18) ?_
            refine vops_rd (rd_lss rfl rfl) rfl ?_
            refine vops_rd (rd_pickF (congrArg PV.bool c18) rfl) rfl ?_
            refine vops_nil ?_
            obtain rfl := Option.some.inj hF
            refine onlyE ?_
            exact weak_pick rfl [(0, 0), (1, 0)] (by decide) ⟨rn_ptr 0 0 rfl rfl, rn_ptr 1 1 rfl rfl, rn_low rfl (.int _ _), rn_low rfl (.bool _), trivial⟩ ⟨⟨_, rfl, rfl, .same _ _ _ _ (ltObj_es ⟨(lt_agg ⟨.int _ _, .int _ _, .int _ _, .int _ _, .int _ _, .int _ _, .int _ _, .int _ _, trivial⟩), trivial⟩)⟩, ⟨_, rfl, rfl, .same _ _ _ _ (ltObj_es ⟨(lt_agg ⟨.int _ _, .int _ _, trivial⟩), trivial⟩)⟩, trivial⟩
        · rintro _ _ _ _ ⟨rfl, hw⟩
          refine ⟨_, _, _, hw, ?_⟩
          refine vwp_cond rfl (fun c19 => ?_) (fun c19 => ?_)
          · have hF := bifT c19 hF
            refine vwp_seq ?_
            refine vwp_region ?_
            refine vops_rd (rd_asB rfl) rfl ?_
            refine vops_nil ?_
            refine vwp_ret ?_
            obtain rfl := Option.some.inj hF
            refine fnR ?_
            exact weak_pick rfl [] (by decide) ⟨rn_low rfl (.bool _), trivial⟩ trivial
          · have hF := bifF c19 hF
            refine vwp_skip ?_
            refine vwp_seq ?_
            rcases Bool.eq_false_or_eq_true (decide (x9.1 = 0)) with c20 | c20
            · have hF := bifT c20 hF
              obtain ⟨x21, h22, hF⟩ := bnd hF
              refine vwp_drawn [[], [0], [0, 1], [0, 1, 2], [0, 1, 2], [0, 1, 2, 4], [0, 1, 2, 3, 4, 5], [0, 1, 2, 3, 4, 5, 6], [0, 1, 2], [0, 1, 2, 8], [0, 1, 2, 3, 4, 5, 6, 7, 8, 9], [0, 1, 2, 3, 4, 5, 6, 7, 8, 9, 10], [0, 1, 2, 3, 4, 5, 6, 7, 8, 9, 10, 11], [0, 1, 2, 3, 4, 5, 6, 7, 8, 9, 10, 11, 12], [0, 1, 2, 3, 4, 5, 6, 7, 8, 9, 10, 11, 12], [0, 1, 2, 3, 4, 5, 6, 7, 8, 9, 10, 11, 12, 14], [0, 1, 2, 3, 4, 5, 6, 7, 8, 9, 10, 11, 12, 13, 14, 15], [0, 1, 2, 3, 4, 5, 6, 7, 8, 9, 10, 11, 12, 13, 14, 15, 16], [0, 1, 2, 3, 4, 5, 6, 7, 8, 9, 10, 11, 12], [0, 1, 2, 3, 4, 5, 6, 7, 8, 9, 10, 11, 12, 18], [0, 1, 2, 3, 4, 5, 6, 7, 8, 9, 10, 11, 12, 13, 14, 15, 16, 17, 18, 19], [0, 1, 2, 3, 4, 5, 6, 7, 8, 9, 10, 11, 12, 13, 14, 15, 16, 17, 18, 19, 20], [0, 1, 2, 3, 4, 5, 6, 7, 8, 9, 10, 11, 12, 13, 14, 15, 16, 17, 18, 19, 20, 21], [0, 1, 2, 3, 4, 5, 6, 7, 8, 9, 10, 11, 12, 13, 14, 15, 16, 17, 18, 19, 20, 21, 22], [0, 1, 2, 3, 4, 5, 6, 7, 8, 9, 10, 11, 12, 13, 14, 15, 16, 17, 18, 19, 20, 21, 22, 23], [0, 1, 2, 3, 4, 5, 6, 7, 8, 9, 10, 11, 12, 13, 14, 15, 16, 17, 18, 19, 20, 21, 22, 23, 24]] [false, false, false, false, false, false, false, false, false, false, false, false, false, false, false, false, false, false, false, false, false, false, false, false, false, false] [(low, [⟨24, 8, [.agg [.int .i64 x5.2.Address, .int .i64 x5.2.Kind, .int .i64 x5.2.Target, .int .i64 x5.2.Offset, .int .i64 x5.2.Scale, .int .i64 x5.2.Error, .int .i64 x5.2.Drift, .int .i64 x5.2.Life]], 0⟩, ⟨33, 2, [.agg [.int .i64 x7.Low, .int .i64 x7.High]], 0⟩])] mixed (by kernel_rfl) rfl (lenAll (all1 rfl all0)) rfl (low, [⟨24, 8, [.agg [.int .i64 x5.2.Address, .int .i64 x5.2.Kind, .int .i64 x5.2.Target, .int .i64 x5.2.Offset, .int .i64 x5.2.Scale, .int .i64 x5.2.Error, .int .i64 x5.2.Drift, .int .i64 x5.2.Life]], 0⟩, ⟨33, 2, [.agg [.int .i64 x7.Low, .int .i64 x7.High]], 0⟩]) rfl rfl ?_
              refine dops_rdW [(low, [⟨24, 8, [.agg [.int .i64 x5.2.Address, .int .i64 x5.2.Kind, .int .i64 x5.2.Target, .int .i64 x5.2.Offset, .int .i64 x5.2.Scale, .int .i64 x5.2.Error, .int .i64 x5.2.Drift, .int .i64 x5.2.Life]], 0⟩, ⟨33, 2, [.agg [.int .i64 x7.Low, .int .i64 x7.High]], 0⟩])] rfl rfl (all1 (VRd.ntl (rd_mvI rfl)) all0) ?_
              refine dops_rdW [(low, [⟨24, 8, [.agg [.int .i64 x5.2.Address, .int .i64 x5.2.Kind, .int .i64 x5.2.Target, .int .i64 x5.2.Offset, .int .i64 x5.2.Scale, .int .i64 x5.2.Error, .int .i64 x5.2.Drift, .int .i64 x5.2.Life]], 0⟩, ⟨33, 2, [.agg [.int .i64 x7.Low, .int .i64 x7.High]], 0⟩])] rfl rfl (all1 (VRd.ntl (rd_eql rfl rfl)) all0) ?_
              refine dops_rdW [(low, [⟨24, 8, [.agg [.int .i64 x5.2.Address, .int .i64 x5.2.Kind, .int .i64 x5.2.Target, .int .i64 x5.2.Offset, .int .i64 x5.2.Scale, .int .i64 x5.2.Error, .int .i64 x5.2.Drift, .int .i64 x5.2.Life]], 0⟩, ⟨33, 2, [.agg [.int .i64 x7.Low, .int .i64 x7.High]], 0⟩])] rfl rfl (all1 (VRd.ntl (rd_mvB rfl)) all0) ?_
              refine dops_skip rfl rfl rfl (neT c20) ?_
              refine dops_skip rfl rfl rfl (neT c20) ?_
              refine dops_skip rfl rfl rfl (neT c20) ?_
              refine dops_skip rfl rfl rfl (neT c20) ?_
              refine dops_skip rfl rfl rfl (neT c20) ?_
              refine dops_skip rfl rfl rfl (neT c20) ?_
              refine dops_skip rfl rfl rfl (neT c20) ?_
              refine dops_skip rfl rfl rfl (neT c20) ?_
              refine dops_rdW [(low, [⟨24, 8, [.agg [.int .i64 x5.2.Address, .int .i64 x5.2.Kind, .int .i64 x5.2.Target, .int .i64 x5.2.Offset, .int .i64 x5.2.Scale, .int .i64 x5.2.Error, .int .i64 x5.2.Drift, .int .i64 x5.2.Life]], 0⟩, ⟨33, 2, [.agg [.int .i64 x7.Low, .int .i64 x7.High]], 0⟩])] rfl rfl (all1 (VRd.ntl (rd_pickT (congrArg PV.bool c20) rfl)) all0) ?_
              refine dops_rdW [(low, [⟨24, 8, [.agg [.int .i64 x5.2.Address, .int .i64 x5.2.Kind, .int .i64 x5.2.Target, .int .i64 x5.2.Offset, .int .i64 x5.2.Scale, .int .i64 x5.2.Error, .int .i64 x5.2.Drift, .int .i64 x5.2.Life]], 0⟩, ⟨33, 2, [.agg [.int .i64 x7.Low, .int .i64 x7.High]], 0⟩])] rfl rfl (all1 (VRd.ntl (rd_mvB rfl)) all0) ?_
              refine dops_skip rfl rfl rfl (by decide) ?_
              refine dops_skip rfl rfl rfl (by decide) ?_
              refine dops_skip rfl rfl rfl (by decide) ?_
              refine dops_skip rfl rfl rfl (by decide) ?_
              refine dops_skip rfl rfl rfl (by decide) ?_
              refine dops_skip rfl rfl rfl (by decide) ?_
              refine dops_skip rfl rfl rfl (by decide) ?_
              refine dops_skip rfl rfl rfl (by decide) ?_
              refine dops_rdW [(low, [⟨24, 8, [.agg [.int .i64 x5.2.Address, .int .i64 x5.2.Kind, .int .i64 x5.2.Target, .int .i64 x5.2.Offset, .int .i64 x5.2.Scale, .int .i64 x5.2.Error, .int .i64 x5.2.Drift, .int .i64 x5.2.Life]], 0⟩, ⟨33, 2, [.agg [.int .i64 x7.Low, .int .i64 x7.High]], 0⟩])] rfl rfl (all1 (VRd.ntl (rd_pickT rfl rfl)) all0) ?_
              refine dops_rdW [(low, [⟨24, 8, [.agg [.int .i64 x5.2.Address, .int .i64 x5.2.Kind, .int .i64 x5.2.Target, .int .i64 x5.2.Offset, .int .i64 x5.2.Scale, .int .i64 x5.2.Error, .int .i64 x5.2.Drift, .int .i64 x5.2.Life]], 0⟩, ⟨33, 2, [.agg [.int .i64 x7.Low, .int .i64 x7.High]], 0⟩])] rfl rfl (all1 (VRd.ntl (rd_mvB rfl)) all0) ?_
              refine dops_takeW [(low, [⟨24, 8, [.agg [.int .i64 x5.2.Address, .int .i64 x5.2.Kind, .int .i64 x5.2.Target, .int .i64 x5.2.Offset, .int .i64 x5.2.Scale, .int .i64 x5.2.Error, .int .i64 x5.2.Drift, .int .i64 x5.2.Life]], 0⟩, ⟨33, 2, [.agg [.int .i64 x7.Low, .int .i64 x7.High]], 0⟩])] rfl rfl rfl rfl (all1 (nt_of (vef_callP rfl Try.call13 (F_law05_awake_ok h22 _))) all0) ?_
              refine dops_rdW [(low, [⟨24, 8, [.agg [.int .i64 x5.2.Address, .int .i64 x5.2.Kind, .int .i64 x5.2.Target, .int .i64 x5.2.Offset, .int .i64 x5.2.Scale, .int .i64 x5.2.Error, .int .i64 x5.2.Drift, .int .i64 x5.2.Life]], 0⟩, ⟨33, 2, [.agg [.int .i64 x7.Low, .int .i64 x7.High]], 0⟩])] rfl rfl (all1 (VRd.ntl (rd_pickT rfl rfl)) all0) ?_
              refine dops_rdW [(low, [⟨24, 8, [.agg [.int .i64 x5.2.Address, .int .i64 x5.2.Kind, .int .i64 x5.2.Target, .int .i64 x5.2.Offset, .int .i64 x5.2.Scale, .int .i64 x5.2.Error, .int .i64 x5.2.Drift, .int .i64 x5.2.Life]], 0⟩, ⟨33, 2, [.agg [.int .i64 x7.Low, .int .i64 x7.High]], 0⟩])] rfl rfl (all1 (VRd.ntl (rd_asB rfl)) all0) ?_
              refine dops_nil ?_
              refine vwp_ret ?_
              obtain rfl := Option.some.inj hF
              refine fnR ?_
              exact weak_pick rfl [] (by decide) ⟨rn_low rfl (.bool _), trivial⟩ trivial
            · have hF := bifF c20 hF
              obtain ⟨x23, h24, hF⟩ := bnd hF
              rcases Bool.eq_false_or_eq_true (decide (x23.High < x7.Low)) with c25 | c25
              · have hF := bifT c25 hF
                obtain ⟨x26, h27, hF⟩ := bnd hF
                refine vwp_drawn [[], [0], [0, 1], [0, 1, 2], [0, 1, 2], [0, 1, 2, 4], [0, 1, 2, 3, 4, 5], [0, 1, 2, 3, 4, 5, 6], [0, 1, 2], [0, 1, 2, 8], [0, 1, 2, 3, 4, 5, 6, 7, 8, 9], [0, 1, 2, 3, 4, 5, 6, 7, 8, 9, 10], [0, 1, 2, 3, 4, 5, 6, 7, 8, 9, 10, 11], [0, 1, 2, 3, 4, 5, 6, 7, 8, 9, 10, 11, 12], [0, 1, 2, 3, 4, 5, 6, 7, 8, 9, 10, 11, 12], [0, 1, 2, 3, 4, 5, 6, 7, 8, 9, 10, 11, 12, 14], [0, 1, 2, 3, 4, 5, 6, 7, 8, 9, 10, 11, 12, 13, 14, 15], [0, 1, 2, 3, 4, 5, 6, 7, 8, 9, 10, 11, 12, 13, 14, 15, 16], [0, 1, 2, 3, 4, 5, 6, 7, 8, 9, 10, 11, 12], [0, 1, 2, 3, 4, 5, 6, 7, 8, 9, 10, 11, 12, 18], [0, 1, 2, 3, 4, 5, 6, 7, 8, 9, 10, 11, 12, 13, 14, 15, 16, 17, 18, 19], [0, 1, 2, 3, 4, 5, 6, 7, 8, 9, 10, 11, 12, 13, 14, 15, 16, 17, 18, 19, 20], [0, 1, 2, 3, 4, 5, 6, 7, 8, 9, 10, 11, 12, 13, 14, 15, 16, 17, 18, 19, 20, 21], [0, 1, 2, 3, 4, 5, 6, 7, 8, 9, 10, 11, 12, 13, 14, 15, 16, 17, 18, 19, 20, 21, 22], [0, 1, 2, 3, 4, 5, 6, 7, 8, 9, 10, 11, 12, 13, 14, 15, 16, 17, 18, 19, 20, 21, 22, 23], [0, 1, 2, 3, 4, 5, 6, 7, 8, 9, 10, 11, 12, 13, 14, 15, 16, 17, 18, 19, 20, 21, 22, 23, 24]] [false, false, false, false, false, false, false, false, false, false, false, false, false, false, false, false, false, false, false, false, false, false, false, false, false, false] [(low, [⟨24, 8, [.agg [.int .i64 x5.2.Address, .int .i64 x5.2.Kind, .int .i64 x5.2.Target, .int .i64 x5.2.Offset, .int .i64 x5.2.Scale, .int .i64 x5.2.Error, .int .i64 x5.2.Drift, .int .i64 x5.2.Life]], 0⟩, ⟨33, 2, [.agg [.int .i64 x7.Low, .int .i64 x7.High]], 0⟩])] mixed (by kernel_rfl) rfl (lenAll (all1 rfl all0)) rfl (low, [⟨24, 8, [.agg [.int .i64 x5.2.Address, .int .i64 x5.2.Kind, .int .i64 x5.2.Target, .int .i64 x5.2.Offset, .int .i64 x5.2.Scale, .int .i64 x5.2.Error, .int .i64 x5.2.Drift, .int .i64 x5.2.Life]], 0⟩, ⟨33, 2, [.agg [.int .i64 x7.Low, .int .i64 x7.High]], 0⟩]) rfl rfl ?_
                refine dops_rdW [(low, [⟨24, 8, [.agg [.int .i64 x5.2.Address, .int .i64 x5.2.Kind, .int .i64 x5.2.Target, .int .i64 x5.2.Offset, .int .i64 x5.2.Scale, .int .i64 x5.2.Error, .int .i64 x5.2.Drift, .int .i64 x5.2.Life]], 0⟩, ⟨33, 2, [.agg [.int .i64 x7.Low, .int .i64 x7.High]], 0⟩])] rfl rfl (all1 (VRd.ntl (rd_mvI rfl)) all0) ?_
                refine dops_rdW [(low, [⟨24, 8, [.agg [.int .i64 x5.2.Address, .int .i64 x5.2.Kind, .int .i64 x5.2.Target, .int .i64 x5.2.Offset, .int .i64 x5.2.Scale, .int .i64 x5.2.Error, .int .i64 x5.2.Drift, .int .i64 x5.2.Life]], 0⟩, ⟨33, 2, [.agg [.int .i64 x7.Low, .int .i64 x7.High]], 0⟩])] rfl rfl (all1 (VRd.ntl (rd_eql rfl rfl)) all0) ?_
                refine dops_rdW [(low, [⟨24, 8, [.agg [.int .i64 x5.2.Address, .int .i64 x5.2.Kind, .int .i64 x5.2.Target, .int .i64 x5.2.Offset, .int .i64 x5.2.Scale, .int .i64 x5.2.Error, .int .i64 x5.2.Drift, .int .i64 x5.2.Life]], 0⟩, ⟨33, 2, [.agg [.int .i64 x7.Low, .int .i64 x7.High]], 0⟩])] rfl rfl (all1 (VRd.ntl (rd_mvB rfl)) all0) ?_
                refine dops_takeW [(low, [⟨24, 8, [.agg [.int .i64 x5.2.Address, .int .i64 x5.2.Kind, .int .i64 x5.2.Target, .int .i64 x5.2.Offset, .int .i64 x5.2.Scale, .int .i64 x5.2.Error, .int .i64 x5.2.Drift, .int .i64 x5.2.Life]], 0⟩, ⟨33, 2, [.agg [.int .i64 x7.Low, .int .i64 x7.High]], 0⟩])] rfl rfl rfl (congrArg PV.bool c20) (all1 (VRd.ntl (rd_loadN (ds := [.int .i64 x5.2.Address, .int .i64 x5.2.Kind, .int .i64 x5.2.Target, .int .i64 x5.2.Offset, .int .i64 x5.2.Scale, .int .i64 x5.2.Error, .int .i64 x5.2.Drift, .int .i64 x5.2.Life]) rfl (getO_N rfl rfl) rfl ta_24 ts_24 rfl rfl rfl)) all0) ?_
                refine dops_takeW [(low, [⟨24, 8, [.agg [.int .i64 x5.2.Address, .int .i64 x5.2.Kind, .int .i64 x5.2.Target, .int .i64 x5.2.Offset, .int .i64 x5.2.Scale, .int .i64 x5.2.Error, .int .i64 x5.2.Drift, .int .i64 x5.2.Life]], 0⟩, ⟨33, 2, [.agg [.int .i64 x7.Low, .int .i64 x7.High]], 0⟩])] rfl rfl rfl (congrArg PV.bool c20) (all1 (VRd.ntl (rd_mvI rfl)) all0) ?_
                refine dops_takeW [(low, [⟨24, 8, [.agg [.int .i64 x5.2.Address, .int .i64 x5.2.Kind, .int .i64 x5.2.Target, .int .i64 x5.2.Offset, .int .i64 x5.2.Scale, .int .i64 x5.2.Error, .int .i64 x5.2.Drift, .int .i64 x5.2.Life]], 0⟩, ⟨33, 2, [.agg [.int .i64 x7.Low, .int .i64 x7.High]], 0⟩])] rfl rfl rfl (congrArg PV.bool c20) (all1 (VRd.ntl (rd_sub rfl rfl rfl)) all0) ?_
                refine dops_takeW [(low, [⟨24, 8, [.agg [.int .i64 x5.2.Address, .int .i64 x5.2.Kind, .int .i64 x5.2.Target, .int .i64 x5.2.Offset, .int .i64 x5.2.Scale, .int .i64 x5.2.Error, .int .i64 x5.2.Drift, .int .i64 x5.2.Life]], 0⟩, ⟨33, 2, [.agg [.int .i64 x7.Low, .int .i64 x7.High]], 0⟩])] rfl rfl rfl (congrArg PV.bool c20) (all1 (nt_of (vef_callP rfl Try.call15 (F_sensor_Value_ok h24 _))) all0) ?_
                refine dops_takeW [(low, [⟨24, 8, [.agg [.int .i64 x5.2.Address, .int .i64 x5.2.Kind, .int .i64 x5.2.Target, .int .i64 x5.2.Offset, .int .i64 x5.2.Scale, .int .i64 x5.2.Error, .int .i64 x5.2.Drift, .int .i64 x5.2.Life]], 0⟩, ⟨33, 2, [.agg [.int .i64 x7.Low, .int .i64 x7.High]], 0⟩])] rfl rfl rfl (congrArg PV.bool c20) (all1 (VRd.ntl (rd_field1 rfl tf_33_1 ta_3 rfl)) all0) ?_
                refine dops_takeW [(low, [⟨24, 8, [.agg [.int .i64 x5.2.Address, .int .i64 x5.2.Kind, .int .i64 x5.2.Target, .int .i64 x5.2.Offset, .int .i64 x5.2.Scale, .int .i64 x5.2.Error, .int .i64 x5.2.Drift, .int .i64 x5.2.Life]], 0⟩, ⟨33, 2, [.agg [.int .i64 x7.Low, .int .i64 x7.High]], 0⟩])] rfl rfl rfl (congrArg PV.bool c20) (all1 (VRd.ntl (rd_fieldAddr rfl tf_33_0 ts_3 (by decide))) all0) ?_
                refine dops_takeW [(low, [⟨24, 8, [.agg [.int .i64 x5.2.Address, .int .i64 x5.2.Kind, .int .i64 x5.2.Target, .int .i64 x5.2.Offset, .int .i64 x5.2.Scale, .int .i64 x5.2.Error, .int .i64 x5.2.Drift, .int .i64 x5.2.Life]], 0⟩, ⟨33, 2, [.agg [.int .i64 x7.Low, .int .i64 x7.High]], 0⟩])] rfl rfl rfl (congrArg PV.bool c20) (all1 (VRd.ntl (rd_load1 rfl (getO_N rfl rfl) rfl ta_3 rfl)) all0) ?_
                refine dops_takeW [(low, [⟨24, 8, [.agg [.int .i64 x5.2.Address, .int .i64 x5.2.Kind, .int .i64 x5.2.Target, .int .i64 x5.2.Offset, .int .i64 x5.2.Scale, .int .i64 x5.2.Error, .int .i64 x5.2.Drift, .int .i64 x5.2.Life]], 0⟩, ⟨33, 2, [.agg [.int .i64 x7.Low, .int .i64 x7.High]], 0⟩])] rfl rfl rfl (congrArg PV.bool c20) (all1 (VRd.ntl (rd_lss rfl rfl)) all0) ?_
                refine dops_rdW [(low, [⟨24, 8, [.agg [.int .i64 x5.2.Address, .int .i64 x5.2.Kind, .int .i64 x5.2.Target, .int .i64 x5.2.Offset, .int .i64 x5.2.Scale, .int .i64 x5.2.Error, .int .i64 x5.2.Drift, .int .i64 x5.2.Life]], 0⟩, ⟨33, 2, [.agg [.int .i64 x7.Low, .int .i64 x7.High]], 0⟩])] rfl rfl (all1 (VRd.ntl (rd_pickF (congrArg PV.bool c20) rfl)) all0) ?_
                refine dops_rdW [(low, [⟨24, 8, [.agg [.int .i64 x5.2.Address, .int .i64 x5.2.Kind, .int .i64 x5.2.Target, .int .i64 x5.2.Offset, .int .i64 x5.2.Scale, .int .i64 x5.2.Error, .int .i64 x5.2.Drift, .int .i64 x5.2.Life]], 0⟩, ⟨33, 2, [.agg [.int .i64 x7.Low, .int .i64 x7.High]], 0⟩])] rfl rfl (all1 (VRd.ntl (rd_mvB rfl)) all0) ?_
                refine dops_skip rfl rfl rfl (neT c25) ?_
                refine dops_skip rfl rfl rfl (neT c25) ?_
                refine dops_skip rfl rfl rfl (neT c25) ?_
                refine dops_skip rfl rfl rfl (neT c25) ?_
                refine dops_skip rfl rfl rfl (neT c25) ?_
                refine dops_skip rfl rfl rfl (neT c25) ?_
                refine dops_skip rfl rfl rfl (neT c25) ?_
                refine dops_skip rfl rfl rfl (neT c25) ?_
                refine dops_rdW [(low, [⟨24, 8, [.agg [.int .i64 x5.2.Address, .int .i64 x5.2.Kind, .int .i64 x5.2.Target, .int .i64 x5.2.Offset, .int .i64 x5.2.Scale, .int .i64 x5.2.Error, .int .i64 x5.2.Drift, .int .i64 x5.2.Life]], 0⟩, ⟨33, 2, [.agg [.int .i64 x7.Low, .int .i64 x7.High]], 0⟩])] rfl rfl (all1 (VRd.ntl (rd_pickT (congrArg PV.bool c25) rfl)) all0) ?_
                refine dops_rdW [(low, [⟨24, 8, [.agg [.int .i64 x5.2.Address, .int .i64 x5.2.Kind, .int .i64 x5.2.Target, .int .i64 x5.2.Offset, .int .i64 x5.2.Scale, .int .i64 x5.2.Error, .int .i64 x5.2.Drift, .int .i64 x5.2.Life]], 0⟩, ⟨33, 2, [.agg [.int .i64 x7.Low, .int .i64 x7.High]], 0⟩])] rfl rfl (all1 (VRd.ntl (rd_mvB rfl)) all0) ?_
                refine dops_takeW [(low, [⟨24, 8, [.agg [.int .i64 x5.2.Address, .int .i64 x5.2.Kind, .int .i64 x5.2.Target, .int .i64 x5.2.Offset, .int .i64 x5.2.Scale, .int .i64 x5.2.Error, .int .i64 x5.2.Drift, .int .i64 x5.2.Life]], 0⟩, ⟨33, 2, [.agg [.int .i64 x7.Low, .int .i64 x7.High]], 0⟩])] rfl rfl rfl rfl (all1 (nt_of (vef_callP rfl Try.call13 (F_law05_awake_ok h27 _))) all0) ?_
                refine dops_rdW [(low, [⟨24, 8, [.agg [.int .i64 x5.2.Address, .int .i64 x5.2.Kind, .int .i64 x5.2.Target, .int .i64 x5.2.Offset, .int .i64 x5.2.Scale, .int .i64 x5.2.Error, .int .i64 x5.2.Drift, .int .i64 x5.2.Life]], 0⟩, ⟨33, 2, [.agg [.int .i64 x7.Low, .int .i64 x7.High]], 0⟩])] rfl rfl (all1 (VRd.ntl (rd_pickT rfl rfl)) all0) ?_
                refine dops_rdW [(low, [⟨24, 8, [.agg [.int .i64 x5.2.Address, .int .i64 x5.2.Kind, .int .i64 x5.2.Target, .int .i64 x5.2.Offset, .int .i64 x5.2.Scale, .int .i64 x5.2.Error, .int .i64 x5.2.Drift, .int .i64 x5.2.Life]], 0⟩, ⟨33, 2, [.agg [.int .i64 x7.Low, .int .i64 x7.High]], 0⟩])] rfl rfl (all1 (VRd.ntl (rd_asB rfl)) all0) ?_
                refine dops_nil ?_
                refine vwp_ret ?_
                obtain rfl := Option.some.inj hF
                refine fnR ?_
                exact weak_pick rfl [] (by decide) ⟨rn_low rfl (.bool _), trivial⟩ trivial
              · have hF := bifF c25 hF
                obtain ⟨x28, h29, hF⟩ := bnd hF
                rcases Bool.eq_false_or_eq_true (decide (x7.Low < x28.Low)) with c30 | c30
                · have hF := bifT c30 hF
                  obtain ⟨x31, h32, hF⟩ := bnd hF
                  refine vwp_drawn [[], [0], [0, 1], [0, 1, 2], [0, 1, 2], [0, 1, 2, 4], [0, 1, 2, 3, 4, 5], [0, 1, 2, 3, 4, 5, 6], [0, 1, 2], [0, 1, 2, 8], [0, 1, 2, 3, 4, 5, 6, 7, 8, 9], [0, 1, 2, 3, 4, 5, 6, 7, 8, 9, 10], [0, 1, 2, 3, 4, 5, 6, 7, 8, 9, 10, 11], [0, 1, 2, 3, 4, 5, 6, 7, 8, 9, 10, 11, 12], [0, 1, 2, 3, 4, 5, 6, 7, 8, 9, 10, 11, 12], [0, 1, 2, 3, 4, 5, 6, 7, 8, 9, 10, 11, 12, 14], [0, 1, 2, 3, 4, 5, 6, 7, 8, 9, 10, 11, 12, 13, 14, 15], [0, 1, 2, 3, 4, 5, 6, 7, 8, 9, 10, 11, 12, 13, 14, 15, 16], [0, 1, 2, 3, 4, 5, 6, 7, 8, 9, 10, 11, 12], [0, 1, 2, 3, 4, 5, 6, 7, 8, 9, 10, 11, 12, 18], [0, 1, 2, 3, 4, 5, 6, 7, 8, 9, 10, 11, 12, 13, 14, 15, 16, 17, 18, 19], [0, 1, 2, 3, 4, 5, 6, 7, 8, 9, 10, 11, 12, 13, 14, 15, 16, 17, 18, 19, 20], [0, 1, 2, 3, 4, 5, 6, 7, 8, 9, 10, 11, 12, 13, 14, 15, 16, 17, 18, 19, 20, 21], [0, 1, 2, 3, 4, 5, 6, 7, 8, 9, 10, 11, 12, 13, 14, 15, 16, 17, 18, 19, 20, 21, 22], [0, 1, 2, 3, 4, 5, 6, 7, 8, 9, 10, 11, 12, 13, 14, 15, 16, 17, 18, 19, 20, 21, 22, 23], [0, 1, 2, 3, 4, 5, 6, 7, 8, 9, 10, 11, 12, 13, 14, 15, 16, 17, 18, 19, 20, 21, 22, 23, 24]] [false, false, false, false, false, false, false, false, false, false, false, false, false, false, false, false, false, false, false, false, false, false, false, false, false, false] [(low, [⟨24, 8, [.agg [.int .i64 x5.2.Address, .int .i64 x5.2.Kind, .int .i64 x5.2.Target, .int .i64 x5.2.Offset, .int .i64 x5.2.Scale, .int .i64 x5.2.Error, .int .i64 x5.2.Drift, .int .i64 x5.2.Life]], 0⟩, ⟨33, 2, [.agg [.int .i64 x7.Low, .int .i64 x7.High]], 0⟩])] mixed (by kernel_rfl) rfl (lenAll (all1 rfl all0)) rfl (low, [⟨24, 8, [.agg [.int .i64 x5.2.Address, .int .i64 x5.2.Kind, .int .i64 x5.2.Target, .int .i64 x5.2.Offset, .int .i64 x5.2.Scale, .int .i64 x5.2.Error, .int .i64 x5.2.Drift, .int .i64 x5.2.Life]], 0⟩, ⟨33, 2, [.agg [.int .i64 x7.Low, .int .i64 x7.High]], 0⟩]) rfl rfl ?_
                  refine dops_rdW [(low, [⟨24, 8, [.agg [.int .i64 x5.2.Address, .int .i64 x5.2.Kind, .int .i64 x5.2.Target, .int .i64 x5.2.Offset, .int .i64 x5.2.Scale, .int .i64 x5.2.Error, .int .i64 x5.2.Drift, .int .i64 x5.2.Life]], 0⟩, ⟨33, 2, [.agg [.int .i64 x7.Low, .int .i64 x7.High]], 0⟩])] rfl rfl (all1 (VRd.ntl (rd_mvI rfl)) all0) ?_
                  refine dops_rdW [(low, [⟨24, 8, [.agg [.int .i64 x5.2.Address, .int .i64 x5.2.Kind, .int .i64 x5.2.Target, .int .i64 x5.2.Offset, .int .i64 x5.2.Scale, .int .i64 x5.2.Error, .int .i64 x5.2.Drift, .int .i64 x5.2.Life]], 0⟩, ⟨33, 2, [.agg [.int .i64 x7.Low, .int .i64 x7.High]], 0⟩])] rfl rfl (all1 (VRd.ntl (rd_eql rfl rfl)) all0) ?_
                  refine dops_rdW [(low, [⟨24, 8, [.agg [.int .i64 x5.2.Address, .int .i64 x5.2.Kind, .int .i64 x5.2.Target, .int .i64 x5.2.Offset, .int .i64 x5.2.Scale, .int .i64 x5.2.Error, .int .i64 x5.2.Drift, .int .i64 x5.2.Life]], 0⟩, ⟨33, 2, [.agg [.int .i64 x7.Low, .int .i64 x7.High]], 0⟩])] rfl rfl (all1 (VRd.ntl (rd_mvB rfl)) all0) ?_
                  refine dops_takeW [(low, [⟨24, 8, [.agg [.int .i64 x5.2.Address, .int .i64 x5.2.Kind, .int .i64 x5.2.Target, .int .i64 x5.2.Offset, .int .i64 x5.2.Scale, .int .i64 x5.2.Error, .int .i64 x5.2.Drift, .int .i64 x5.2.Life]], 0⟩, ⟨33, 2, [.agg [.int .i64 x7.Low, .int .i64 x7.High]], 0⟩])] rfl rfl rfl (congrArg PV.bool c20) (all1 (VRd.ntl (rd_loadN (ds := [.int .i64 x5.2.Address, .int .i64 x5.2.Kind, .int .i64 x5.2.Target, .int .i64 x5.2.Offset, .int .i64 x5.2.Scale, .int .i64 x5.2.Error, .int .i64 x5.2.Drift, .int .i64 x5.2.Life]) rfl (getO_N rfl rfl) rfl ta_24 ts_24 rfl rfl rfl)) all0) ?_
                  refine dops_takeW [(low, [⟨24, 8, [.agg [.int .i64 x5.2.Address, .int .i64 x5.2.Kind, .int .i64 x5.2.Target, .int .i64 x5.2.Offset, .int .i64 x5.2.Scale, .int .i64 x5.2.Error, .int .i64 x5.2.Drift, .int .i64 x5.2.Life]], 0⟩, ⟨33, 2, [.agg [.int .i64 x7.Low, .int .i64 x7.High]], 0⟩])] rfl rfl rfl (congrArg PV.bool c20) (all1 (VRd.ntl (rd_mvI rfl)) all0) ?_
                  refine dops_takeW [(low, [⟨24, 8, [.agg [.int .i64 x5.2.Address, .int .i64 x5.2.Kind, .int .i64 x5.2.Target, .int .i64 x5.2.Offset, .int .i64 x5.2.Scale, .int .i64 x5.2.Error, .int .i64 x5.2.Drift, .int .i64 x5.2.Life]], 0⟩, ⟨33, 2, [.agg [.int .i64 x7.Low, .int .i64 x7.High]], 0⟩])] rfl rfl rfl (congrArg PV.bool c20) (all1 (VRd.ntl (rd_sub rfl rfl rfl)) all0) ?_
                  refine dops_takeW [(low, [⟨24, 8, [.agg [.int .i64 x5.2.Address, .int .i64 x5.2.Kind, .int .i64 x5.2.Target, .int .i64 x5.2.Offset, .int .i64 x5.2.Scale, .int .i64 x5.2.Error, .int .i64 x5.2.Drift, .int .i64 x5.2.Life]], 0⟩, ⟨33, 2, [.agg [.int .i64 x7.Low, .int .i64 x7.High]], 0⟩])] rfl rfl rfl (congrArg PV.bool c20) (all1 (nt_of (vef_callP rfl Try.call15 (F_sensor_Value_ok h24 _))) all0) ?_
                  refine dops_takeW [(low, [⟨24, 8, [.agg [.int .i64 x5.2.Address, .int .i64 x5.2.Kind, .int .i64 x5.2.Target, .int .i64 x5.2.Offset, .int .i64 x5.2.Scale, .int .i64 x5.2.Error, .int .i64 x5.2.Drift, .int .i64 x5.2.Life]], 0⟩, ⟨33, 2, [.agg [.int .i64 x7.Low, .int .i64 x7.High]], 0⟩])] rfl rfl rfl (congrArg PV.bool c20) (all1 (VRd.ntl (rd_field1 rfl tf_33_1 ta_3 rfl)) all0) ?_
                  refine dops_takeW [(low, [⟨24, 8, [.agg [.int .i64 x5.2.Address, .int .i64 x5.2.Kind, .int .i64 x5.2.Target, .int .i64 x5.2.Offset, .int .i64 x5.2.Scale, .int .i64 x5.2.Error, .int .i64 x5.2.Drift, .int .i64 x5.2.Life]], 0⟩, ⟨33, 2, [.agg [.int .i64 x7.Low, .int .i64 x7.High]], 0⟩])] rfl rfl rfl (congrArg PV.bool c20) (all1 (VRd.ntl (rd_fieldAddr rfl tf_33_0 ts_3 (by decide))) all0) ?_
                  refine dops_takeW [(low, [⟨24, 8, [.agg [.int .i64 x5.2.Address, .int .i64 x5.2.Kind, .int .i64 x5.2.Target, .int .i64 x5.2.Offset, .int .i64 x5.2.Scale, .int .i64 x5.2.Error, .int .i64 x5.2.Drift, .int .i64 x5.2.Life]], 0⟩, ⟨33, 2, [.agg [.int .i64 x7.Low, .int .i64 x7.High]], 0⟩])] rfl rfl rfl (congrArg PV.bool c20) (all1 (VRd.ntl (rd_load1 rfl (getO_N rfl rfl) rfl ta_3 rfl)) all0) ?_
                  refine dops_takeW [(low, [⟨24, 8, [.agg [.int .i64 x5.2.Address, .int .i64 x5.2.Kind, .int .i64 x5.2.Target, .int .i64 x5.2.Offset, .int .i64 x5.2.Scale, .int .i64 x5.2.Error, .int .i64 x5.2.Drift, .int .i64 x5.2.Life]], 0⟩, ⟨33, 2, [.agg [.int .i64 x7.Low, .int .i64 x7.High]], 0⟩])] rfl rfl rfl (congrArg PV.bool c20) (all1 (VRd.ntl (rd_lss rfl rfl)) all0) ?_
                  refine dops_rdW [(low, [⟨24, 8, [.agg [.int .i64 x5.2.Address, .int .i64 x5.2.Kind, .int .i64 x5.2.Target, .int .i64 x5.2.Offset, .int .i64 x5.2.Scale, .int .i64 x5.2.Error, .int .i64 x5.2.Drift, .int .i64 x5.2.Life]], 0⟩, ⟨33, 2, [.agg [.int .i64 x7.Low, .int .i64 x7.High]], 0⟩])] rfl rfl (all1 (VRd.ntl (rd_pickF (congrArg PV.bool c20) rfl)) all0) ?_
                  refine dops_rdW [(low, [⟨24, 8, [.agg [.int .i64 x5.2.Address, .int .i64 x5.2.Kind, .int .i64 x5.2.Target, .int .i64 x5.2.Offset, .int .i64 x5.2.Scale, .int .i64 x5.2.Error, .int .i64 x5.2.Drift, .int .i64 x5.2.Life]], 0⟩, ⟨33, 2, [.agg [.int .i64 x7.Low, .int .i64 x7.High]], 0⟩])] rfl rfl (all1 (VRd.ntl (rd_mvB rfl)) all0) ?_
                  refine dops_takeW [(low, [⟨24, 8, [.agg [.int .i64 x5.2.Address, .int .i64 x5.2.Kind, .int .i64 x5.2.Target, .int .i64 x5.2.Offset, .int .i64 x5.2.Scale, .int .i64 x5.2.Error, .int .i64 x5.2.Drift, .int .i64 x5.2.Life]], 0⟩, ⟨33, 2, [.agg [.int .i64 x7.Low, .int .i64 x7.High]], 0⟩])] rfl rfl rfl (congrArg PV.bool c25) (all1 (VRd.ntl (rd_loadN (ds := [.int .i64 x5.2.Address, .int .i64 x5.2.Kind, .int .i64 x5.2.Target, .int .i64 x5.2.Offset, .int .i64 x5.2.Scale, .int .i64 x5.2.Error, .int .i64 x5.2.Drift, .int .i64 x5.2.Life]) rfl (getO_N rfl rfl) rfl ta_24 ts_24 rfl rfl rfl)) all0) ?_
                  refine dops_takeW [(low, [⟨24, 8, [.agg [.int .i64 x5.2.Address, .int .i64 x5.2.Kind, .int .i64 x5.2.Target, .int .i64 x5.2.Offset, .int .i64 x5.2.Scale, .int .i64 x5.2.Error, .int .i64 x5.2.Drift, .int .i64 x5.2.Life]], 0⟩, ⟨33, 2, [.agg [.int .i64 x7.Low, .int .i64 x7.High]], 0⟩])] rfl rfl rfl (congrArg PV.bool c25) (all1 (VRd.ntl (rd_mvI rfl)) all0) ?_
                  refine dops_takeW [(low, [⟨24, 8, [.agg [.int .i64 x5.2.Address, .int .i64 x5.2.Kind, .int .i64 x5.2.Target, .int .i64 x5.2.Offset, .int .i64 x5.2.Scale, .int .i64 x5.2.Error, .int .i64 x5.2.Drift, .int .i64 x5.2.Life]], 0⟩, ⟨33, 2, [.agg [.int .i64 x7.Low, .int .i64 x7.High]], 0⟩])] rfl rfl rfl (congrArg PV.bool c25) (all1 (VRd.ntl (rd_sub rfl rfl rfl)) all0) ?_
                  refine dops_takeW [(low, [⟨24, 8, [.agg [.int .i64 x5.2.Address, .int .i64 x5.2.Kind, .int .i64 x5.2.Target, .int .i64 x5.2.Offset, .int .i64 x5.2.Scale, .int .i64 x5.2.Error, .int .i64 x5.2.Drift, .int .i64 x5.2.Life]], 0⟩, ⟨33, 2, [.agg [.int .i64 x7.Low, .int .i64 x7.High]], 0⟩])] rfl rfl rfl (congrArg PV.bool c25) (all1 (nt_of (vef_callP rfl Try.call15 (F_sensor_Value_ok h29 _))) all0) ?_
                  refine dops_takeW [(low, [⟨24, 8, [.agg [.int .i64 x5.2.Address, .int .i64 x5.2.Kind, .int .i64 x5.2.Target, .int .i64 x5.2.Offset, .int .i64 x5.2.Scale, .int .i64 x5.2.Error, .int .i64 x5.2.Drift, .int .i64 x5.2.Life]], 0⟩, ⟨33, 2, [.agg [.int .i64 x7.Low, .int .i64 x7.High]], 0⟩])] rfl rfl rfl (congrArg PV.bool c25) (all1 (VRd.ntl (rd_field1 rfl tf_33_0 ta_3 rfl)) all0) ?_
                  refine dops_takeW [(low, [⟨24, 8, [.agg [.int .i64 x5.2.Address, .int .i64 x5.2.Kind, .int .i64 x5.2.Target, .int .i64 x5.2.Offset, .int .i64 x5.2.Scale, .int .i64 x5.2.Error, .int .i64 x5.2.Drift, .int .i64 x5.2.Life]], 0⟩, ⟨33, 2, [.agg [.int .i64 x7.Low, .int .i64 x7.High]], 0⟩])] rfl rfl rfl (congrArg PV.bool c25) (all1 (VRd.ntl (rd_fieldAddr rfl tf_33_0 ts_3 (by decide))) all0) ?_
                  refine dops_takeW [(low, [⟨24, 8, [.agg [.int .i64 x5.2.Address, .int .i64 x5.2.Kind, .int .i64 x5.2.Target, .int .i64 x5.2.Offset, .int .i64 x5.2.Scale, .int .i64 x5.2.Error, .int .i64 x5.2.Drift, .int .i64 x5.2.Life]], 0⟩, ⟨33, 2, [.agg [.int .i64 x7.Low, .int .i64 x7.High]], 0⟩])] rfl rfl rfl (congrArg PV.bool c25) (all1 (VRd.ntl (rd_load1 rfl (getO_N rfl rfl) rfl ta_3 rfl)) all0) ?_
                  refine dops_takeW [(low, [⟨24, 8, [.agg [.int .i64 x5.2.Address, .int .i64 x5.2.Kind, .int .i64 x5.2.Target, .int .i64 x5.2.Offset, .int .i64 x5.2.Scale, .int .i64 x5.2.Error, .int .i64 x5.2.Drift, .int .i64 x5.2.Life]], 0⟩, ⟨33, 2, [.agg [.int .i64 x7.Low, .int .i64 x7.High]], 0⟩])] rfl rfl rfl (congrArg PV.bool c25) (all1 (VRd.ntl (rd_gtr rfl rfl)) all0) ?_
                  refine dops_rdW [(low, [⟨24, 8, [.agg [.int .i64 x5.2.Address, .int .i64 x5.2.Kind, .int .i64 x5.2.Target, .int .i64 x5.2.Offset, .int .i64 x5.2.Scale, .int .i64 x5.2.Error, .int .i64 x5.2.Drift, .int .i64 x5.2.Life]], 0⟩, ⟨33, 2, [.agg [.int .i64 x7.Low, .int .i64 x7.High]], 0⟩])] rfl rfl (all1 (VRd.ntl (rd_pickF (congrArg PV.bool c25) rfl)) all0) ?_
                  refine dops_rdW [(low, [⟨24, 8, [.agg [.int .i64 x5.2.Address, .int .i64 x5.2.Kind, .int .i64 x5.2.Target, .int .i64 x5.2.Offset, .int .i64 x5.2.Scale, .int .i64 x5.2.Error, .int .i64 x5.2.Drift, .int .i64 x5.2.Life]], 0⟩, ⟨33, 2, [.agg [.int .i64 x7.Low, .int .i64 x7.High]], 0⟩])] rfl rfl (all1 (VRd.ntl (rd_mvB rfl)) all0) ?_
                  refine dops_takeW [(low, [⟨24, 8, [.agg [.int .i64 x5.2.Address, .int .i64 x5.2.Kind, .int .i64 x5.2.Target, .int .i64 x5.2.Offset, .int .i64 x5.2.Scale, .int .i64 x5.2.Error, .int .i64 x5.2.Drift, .int .i64 x5.2.Life]], 0⟩, ⟨33, 2, [.agg [.int .i64 x7.Low, .int .i64 x7.High]], 0⟩])] rfl rfl rfl (congrArg PV.bool c30) (all1 (nt_of (vef_callP rfl Try.call13 (F_law05_awake_ok h32 _))) all0) ?_
                  refine dops_rdW [(low, [⟨24, 8, [.agg [.int .i64 x5.2.Address, .int .i64 x5.2.Kind, .int .i64 x5.2.Target, .int .i64 x5.2.Offset, .int .i64 x5.2.Scale, .int .i64 x5.2.Error, .int .i64 x5.2.Drift, .int .i64 x5.2.Life]], 0⟩, ⟨33, 2, [.agg [.int .i64 x7.Low, .int .i64 x7.High]], 0⟩])] rfl rfl (all1 (VRd.ntl (rd_pickT (congrArg PV.bool c30) rfl)) all0) ?_
                  refine dops_rdW [(low, [⟨24, 8, [.agg [.int .i64 x5.2.Address, .int .i64 x5.2.Kind, .int .i64 x5.2.Target, .int .i64 x5.2.Offset, .int .i64 x5.2.Scale, .int .i64 x5.2.Error, .int .i64 x5.2.Drift, .int .i64 x5.2.Life]], 0⟩, ⟨33, 2, [.agg [.int .i64 x7.Low, .int .i64 x7.High]], 0⟩])] rfl rfl (all1 (VRd.ntl (rd_asB rfl)) all0) ?_
                  refine dops_nil ?_
                  refine vwp_ret ?_
                  obtain rfl := Option.some.inj hF
                  refine fnR ?_
                  exact weak_pick rfl [] (by decide) ⟨rn_low rfl (.bool _), trivial⟩ trivial
                · have hF := bifF c30 hF
                  refine vwp_drawn [[], [0], [0, 1], [0, 1, 2], [0, 1, 2], [0, 1, 2, 4], [0, 1, 2, 3, 4, 5], [0, 1, 2, 3, 4, 5, 6], [0, 1, 2], [0, 1, 2, 8], [0, 1, 2, 3, 4, 5, 6, 7, 8, 9], [0, 1, 2, 3, 4, 5, 6, 7, 8, 9, 10], [0, 1, 2, 3, 4, 5, 6, 7, 8, 9, 10, 11], [0, 1, 2, 3, 4, 5, 6, 7, 8, 9, 10, 11, 12], [0, 1, 2, 3, 4, 5, 6, 7, 8, 9, 10, 11, 12], [0, 1, 2, 3, 4, 5, 6, 7, 8, 9, 10, 11, 12, 14], [0, 1, 2, 3, 4, 5, 6, 7, 8, 9, 10, 11, 12, 13, 14, 15], [0, 1, 2, 3, 4, 5, 6, 7, 8, 9, 10, 11, 12, 13, 14, 15, 16], [0, 1, 2, 3, 4, 5, 6, 7, 8, 9, 10, 11, 12], [0, 1, 2, 3, 4, 5, 6, 7, 8, 9, 10, 11, 12, 18], [0, 1, 2, 3, 4, 5, 6, 7, 8, 9, 10, 11, 12, 13, 14, 15, 16, 17, 18, 19], [0, 1, 2, 3, 4, 5, 6, 7, 8, 9, 10, 11, 12, 13, 14, 15, 16, 17, 18, 19, 20], [0, 1, 2, 3, 4, 5, 6, 7, 8, 9, 10, 11, 12, 13, 14, 15, 16, 17, 18, 19, 20, 21], [0, 1, 2, 3, 4, 5, 6, 7, 8, 9, 10, 11, 12, 13, 14, 15, 16, 17, 18, 19, 20, 21, 22], [0, 1, 2, 3, 4, 5, 6, 7, 8, 9, 10, 11, 12, 13, 14, 15, 16, 17, 18, 19, 20, 21, 22, 23], [0, 1, 2, 3, 4, 5, 6, 7, 8, 9, 10, 11, 12, 13, 14, 15, 16, 17, 18, 19, 20, 21, 22, 23, 24]] [false, false, false, false, false, false, false, false, false, false, false, false, false, false, false, false, false, false, false, false, false, false, false, false, false, false] [(low, [⟨24, 8, [.agg [.int .i64 x5.2.Address, .int .i64 x5.2.Kind, .int .i64 x5.2.Target, .int .i64 x5.2.Offset, .int .i64 x5.2.Scale, .int .i64 x5.2.Error, .int .i64 x5.2.Drift, .int .i64 x5.2.Life]], 0⟩, ⟨33, 2, [.agg [.int .i64 x7.Low, .int .i64 x7.High]], 0⟩])] mixed (by kernel_rfl) rfl (lenAll (all1 rfl all0)) rfl (low, [⟨24, 8, [.agg [.int .i64 x5.2.Address, .int .i64 x5.2.Kind, .int .i64 x5.2.Target, .int .i64 x5.2.Offset, .int .i64 x5.2.Scale, .int .i64 x5.2.Error, .int .i64 x5.2.Drift, .int .i64 x5.2.Life]], 0⟩, ⟨33, 2, [.agg [.int .i64 x7.Low, .int .i64 x7.High]], 0⟩]) rfl rfl ?_
                  refine dops_rdW [(low, [⟨24, 8, [.agg [.int .i64 x5.2.Address, .int .i64 x5.2.Kind, .int .i64 x5.2.Target, .int .i64 x5.2.Offset, .int .i64 x5.2.Scale, .int .i64 x5.2.Error, .int .i64 x5.2.Drift, .int .i64 x5.2.Life]], 0⟩, ⟨33, 2, [.agg [.int .i64 x7.Low, .int .i64 x7.High]], 0⟩])] rfl rfl (all1 (VRd.ntl (rd_mvI rfl)) all0) ?_
                  refine dops_rdW [(low, [⟨24, 8, [.agg [.int .i64 x5.2.Address, .int .i64 x5.2.Kind, .int .i64 x5.2.Target, .int .i64 x5.2.Offset, .int .i64 x5.2.Scale, .int .i64 x5.2.Error, .int .i64 x5.2.Drift, .int .i64 x5.2.Life]], 0⟩, ⟨33, 2, [.agg [.int .i64 x7.Low, .int .i64 x7.High]], 0⟩])] rfl rfl (all1 (VRd.ntl (rd_eql rfl rfl)) all0) ?_
                  refine dops_rdW [(low, [⟨24, 8, [.agg [.int .i64 x5.2.Address, .int .i64 x5.2.Kind, .int .i64 x5.2.Target, .int .i64 x5.2.Offset, .int .i64 x5.2.Scale, .int .i64 x5.2.Error, .int .i64 x5.2.Drift, .int .i64 x5.2.Life]], 0⟩, ⟨33, 2, [.agg [.int .i64 x7.Low, .int .i64 x7.High]], 0⟩])] rfl rfl (all1 (VRd.ntl (rd_mvB rfl)) all0) ?_
                  refine dops_takeW [(low, [⟨24, 8, [.agg [.int .i64 x5.2.Address, .int .i64 x5.2.Kind, .int .i64 x5.2.Target, .int .i64 x5.2.Offset, .int .i64 x5.2.Scale, .int .i64 x5.2.Error, .int .i64 x5.2.Drift, .int .i64 x5.2.Life]], 0⟩, ⟨33, 2, [.agg [.int .i64 x7.Low, .int .i64 x7.High]], 0⟩])] rfl rfl rfl (congrArg PV.bool c20) (all1 (VRd.ntl (rd_loadN (ds := [.int .i64 x5.2.Address, .int .i64 x5.2.Kind, .int .i64 x5.2.Target, .int .i64 x5.2.Offset, .int .i64 x5.2.Scale, .int .i64 x5.2.Error, .int .i64 x5.2.Drift, .int .i64 x5.2.Life]) rfl (getO_N rfl rfl) rfl ta_24 ts_24 rfl rfl rfl)) all0) ?_
                  refine dops_takeW [(low, [⟨24, 8, [.agg [.int .i64 x5.2.Address, .int .i64 x5.2.Kind, .int .i64 x5.2.Target, .int .i64 x5.2.Offset, .int .i64 x5.2.Scale, .int .i64 x5.2.Error, .int .i64 x5.2.Drift, .int .i64 x5.2.Life]], 0⟩, ⟨33, 2, [.agg [.int .i64 x7.Low, .int .i64 x7.High]], 0⟩])] rfl rfl rfl (congrArg PV.bool c20) (all1 (VRd.ntl (rd_mvI rfl)) all0) ?_
                  refine dops_takeW [(low, [⟨24, 8, [.agg [.int .i64 x5.2.Address, .int .i64 x5.2.Kind, .int .i64 x5.2.Target, .int .i64 x5.2.Offset, .int .i64 x5.2.Scale, .int .i64 x5.2.Error, .int .i64 x5.2.Drift, .int .i64 x5.2.Life]], 0⟩, ⟨33, 2, [.agg [.int .i64 x7.Low, .int .i64 x7.High]], 0⟩])] rfl rfl rfl (congrArg PV.bool c20) (all1 (VRd.ntl (rd_sub rfl rfl rfl)) all0) ?_
                  refine dops_takeW [(low, [⟨24, 8, [.agg [.int .i64 x5.2.Address, .int .i64 x5.2.Kind, .int .i64 x5.2.Target, .int .i64 x5.2.Offset, .int .i64 x5.2.Scale, .int .i64 x5.2.Error, .int .i64 x5.2.Drift, .int .i64 x5.2.Life]], 0⟩, ⟨33, 2, [.agg [.int .i64 x7.Low, .int .i64 x7.High]], 0⟩])] rfl rfl rfl (congrArg PV.bool c20) (all1 (nt_of (vef_callP rfl Try.call15 (F_sensor_Value_ok h24 _))) all0) ?_
                  refine dops_takeW [(low, [⟨24, 8, [.agg [.int .i64 x5.2.Address, .int .i64 x5.2.Kind, .int .i64 x5.2.Target, .int .i64 x5.2.Offset, .int .i64 x5.2.Scale, .int .i64 x5.2.Error, .int .i64 x5.2.Drift, .int .i64 x5.2.Life]], 0⟩, ⟨33, 2, [.agg [.int .i64 x7.Low, .int .i64 x7.High]], 0⟩])] rfl rfl rfl (congrArg PV.bool c20) (all1 (VRd.ntl (rd_field1 rfl tf_33_1 ta_3 rfl)) all0) ?_
                  refine dops_takeW [(low, [⟨24, 8, [.agg [.int .i64 x5.2.Address, .int .i64 x5.2.Kind, .int .i64 x5.2.Target, .int .i64 x5.2.Offset, .int .i64 x5.2.Scale, .int .i64 x5.2.Error, .int .i64 x5.2.Drift, .int .i64 x5.2.Life]], 0⟩, ⟨33, 2, [.agg [.int .i64 x7.Low, .int .i64 x7.High]], 0⟩])] rfl rfl rfl (congrArg PV.bool c20) (all1 (VRd.ntl (rd_fieldAddr rfl tf_33_0 ts_3 (by decide))) all0) ?_
                  refine dops_takeW [(low, [⟨24, 8, [.agg [.int .i64 x5.2.Address, .int .i64 x5.2.Kind, .int .i64 x5.2.Target, .int .i64 x5.2.Offset, .int .i64 x5.2.Scale, .int .i64 x5.2.Error, .int .i64 x5.2.Drift, .int .i64 x5.2.Life]], 0⟩, ⟨33, 2, [.agg [.int .i64 x7.Low, .int .i64 x7.High]], 0⟩])] rfl rfl rfl (congrArg PV.bool c20) (all1 (VRd.ntl (rd_load1 rfl (getO_N rfl rfl) rfl ta_3 rfl)) all0) ?_
                  refine dops_takeW [(low, [⟨24, 8, [.agg [.int .i64 x5.2.Address, .int .i64 x5.2.Kind, .int .i64 x5.2.Target, .int .i64 x5.2.Offset, .int .i64 x5.2.Scale, .int .i64 x5.2.Error, .int .i64 x5.2.Drift, .int .i64 x5.2.Life]], 0⟩, ⟨33, 2, [.agg [.int .i64 x7.Low, .int .i64 x7.High]], 0⟩])] rfl rfl rfl (congrArg PV.bool c20) (all1 (VRd.ntl (rd_lss rfl rfl)) all0) ?_
                  refine dops_rdW [(low, [⟨24, 8, [.agg [.int .i64 x5.2.Address, .int .i64 x5.2.Kind, .int .i64 x5.2.Target, .int .i64 x5.2.Offset, .int .i64 x5.2.Scale, .int .i64 x5.2.Error, .int .i64 x5.2.Drift, .int .i64 x5.2.Life]], 0⟩, ⟨33, 2, [.agg [.int .i64 x7.Low, .int .i64 x7.High]], 0⟩])] rfl rfl (all1 (VRd.ntl (rd_pickF (congrArg PV.bool c20) rfl)) all0) ?_
                  refine dops_rdW [(low, [⟨24, 8, [.agg [.int .i64 x5.2.Address, .int .i64 x5.2.Kind, .int .i64 x5.2.Target, .int .i64 x5.2.Offset, .int .i64 x5.2.Scale, .int .i64 x5.2.Error, .int .i64 x5.2.Drift, .int .i64 x5.2.Life]], 0⟩, ⟨33, 2, [.agg [.int .i64 x7.Low, .int .i64 x7.High]], 0⟩])] rfl rfl (all1 (VRd.ntl (rd_mvB rfl)) all0) ?_
                  refine dops_takeW [(low, [⟨24, 8, [.agg [.int .i64 x5.2.Address, .int .i64 x5.2.Kind, .int .i64 x5.2.Target, .int .i64 x5.2.Offset, .int .i64 x5.2.Scale, .int .i64 x5.2.Error, .int .i64 x5.2.Drift, .int .i64 x5.2.Life]], 0⟩, ⟨33, 2, [.agg [.int .i64 x7.Low, .int .i64 x7.High]], 0⟩])] rfl rfl rfl (congrArg PV.bool c25) (all1 (VRd.ntl (rd_loadN (ds := [.int .i64 x5.2.Address, .int .i64 x5.2.Kind, .int .i64 x5.2.Target, .int .i64 x5.2.Offset, .int .i64 x5.2.Scale, .int .i64 x5.2.Error, .int .i64 x5.2.Drift, .int .i64 x5.2.Life]) rfl (getO_N rfl rfl) rfl ta_24 ts_24 rfl rfl rfl)) all0) ?_
                  refine dops_takeW [(low, [⟨24, 8, [.agg [.int .i64 x5.2.Address, .int .i64 x5.2.Kind, .int .i64 x5.2.Target, .int .i64 x5.2.Offset, .int .i64 x5.2.Scale, .int .i64 x5.2.Error, .int .i64 x5.2.Drift, .int .i64 x5.2.Life]], 0⟩, ⟨33, 2, [.agg [.int .i64 x7.Low, .int .i64 x7.High]], 0⟩])] rfl rfl rfl (congrArg PV.bool c25) (all1 (VRd.ntl (rd_mvI rfl)) all0) ?_
                  refine dops_takeW [(low, [⟨24, 8, [.agg [.int .i64 x5.2.Address, .int .i64 x5.2.Kind, .int .i64 x5.2.Target, .int .i64 x5.2.Offset, .int .i64 x5.2.Scale, .int .i64 x5.2.Error, .int .i64 x5.2.Drift, .int .i64 x5.2.Life]], 0⟩, ⟨33, 2, [.agg [.int .i64 x7.Low, .int .i64 x7.High]], 0⟩])] rfl rfl rfl (congrArg PV.bool c25) (all1 (VRd.ntl (rd_sub rfl rfl rfl)) all0) ?_
                  refine dops_takeW [(low, [⟨24, 8, [.agg [.int .i64 x5.2.Address, .int .i64 x5.2.Kind, .int .i64 x5.2.Target, .int .i64 x5.2.Offset, .int .i64 x5.2.Scale, .int .i64 x5.2.Error, .int .i64 x5.2.Drift, .int .i64 x5.2.Life]], 0⟩, ⟨33, 2, [.agg [.int .i64 x7.Low, .int .i64 x7.High]], 0⟩])] rfl rfl rfl (congrArg PV.bool c25) (all1 (nt_of (vef_callP rfl Try.call15 (F_sensor_Value_ok h29 _))) all0) ?_
                  refine dops_takeW [(low, [⟨24, 8, [.agg [.int .i64 x5.2.Address, .int .i64 x5.2.Kind, .int .i64 x5.2.Target, .int .i64 x5.2.Offset, .int .i64 x5.2.Scale, .int .i64 x5.2.Error, .int .i64 x5.2.Drift, .int .i64 x5.2.Life]], 0⟩, ⟨33, 2, [.agg [.int .i64 x7.Low, .int .i64 x7.High]], 0⟩])] rfl rfl rfl (congrArg PV.bool c25) (all1 (VRd.ntl (rd_field1 rfl tf_33_0 ta_3 rfl)) all0) ?_
                  refine dops_takeW [(low, [⟨24, 8, [.agg [.int .i64 x5.2.Address, .int .i64 x5.2.Kind, .int .i64 x5.2.Target, .int .i64 x5.2.Offset, .int .i64 x5.2.Scale, .int .i64 x5.2.Error, .int .i64 x5.2.Drift, .int .i64 x5.2.Life]], 0⟩, ⟨33, 2, [.agg [.int .i64 x7.Low, .int .i64 x7.High]], 0⟩])] rfl rfl rfl (congrArg PV.bool c25) (all1 (VRd.ntl (rd_fieldAddr rfl tf_33_0 ts_3 (by decide))) all0) ?_
                  refine dops_takeW [(low, [⟨24, 8, [.agg [.int .i64 x5.2.Address, .int .i64 x5.2.Kind, .int .i64 x5.2.Target, .int .i64 x5.2.Offset, .int .i64 x5.2.Scale, .int .i64 x5.2.Error, .int .i64 x5.2.Drift, .int .i64 x5.2.Life]], 0⟩, ⟨33, 2, [.agg [.int .i64 x7.Low, .int .i64 x7.High]], 0⟩])] rfl rfl rfl (congrArg PV.bool c25) (all1 (VRd.ntl (rd_load1 rfl (getO_N rfl rfl) rfl ta_3 rfl)) all0) ?_
                  refine dops_takeW [(low, [⟨24, 8, [.agg [.int .i64 x5.2.Address, .int .i64 x5.2.Kind, .int .i64 x5.2.Target, .int .i64 x5.2.Offset, .int .i64 x5.2.Scale, .int .i64 x5.2.Error, .int .i64 x5.2.Drift, .int .i64 x5.2.Life]], 0⟩, ⟨33, 2, [.agg [.int .i64 x7.Low, .int .i64 x7.High]], 0⟩])] rfl rfl rfl (congrArg PV.bool c25) (all1 (VRd.ntl (rd_gtr rfl rfl)) all0) ?_
                  refine dops_rdW [(low, [⟨24, 8, [.agg [.int .i64 x5.2.Address, .int .i64 x5.2.Kind, .int .i64 x5.2.Target, .int .i64 x5.2.Offset, .int .i64 x5.2.Scale, .int .i64 x5.2.Error, .int .i64 x5.2.Drift, .int .i64 x5.2.Life]], 0⟩, ⟨33, 2, [.agg [.int .i64 x7.Low, .int .i64 x7.High]], 0⟩])] rfl rfl (all1 (VRd.ntl (rd_pickF (congrArg PV.bool c25) rfl)) all0) ?_
                  refine dops_rdW [(low, [⟨24, 8, [.agg [.int .i64 x5.2.Address, .int .i64 x5.2.Kind, .int .i64 x5.2.Target, .int .i64 x5.2.Offset, .int .i64 x5.2.Scale, .int .i64 x5.2.Error, .int .i64 x5.2.Drift, .int .i64 x5.2.Life]], 0⟩, ⟨33, 2, [.agg [.int .i64 x7.Low, .int .i64 x7.High]], 0⟩])] rfl rfl (all1 (VRd.ntl (rd_mvB rfl)) all0) ?_
                  refine dops_skip rfl rfl rfl (neF c30) ?_
                  refine dops_rdW [(low, [⟨24, 8, [.agg [.int .i64 x5.2.Address, .int .i64 x5.2.Kind, .int .i64 x5.2.Target, .int .i64 x5.2.Offset, .int .i64 x5.2.Scale, .int .i64 x5.2.Error, .int .i64 x5.2.Drift, .int .i64 x5.2.Life]], 0⟩, ⟨33, 2, [.agg [.int .i64 x7.Low, .int .i64 x7.High]], 0⟩])] rfl rfl (all1 (VRd.ntl (rd_pickF (congrArg PV.bool c30) rfl)) all0) ?_
                  refine dops_rdW [(low, [⟨24, 8, [.agg [.int .i64 x5.2.Address, .int .i64 x5.2.Kind, .int .i64 x5.2.Target, .int .i64 x5.2.Offset, .int .i64 x5.2.Scale, .int .i64 x5.2.Error, .int .i64 x5.2.Drift, .int .i64 x5.2.Life]], 0⟩, ⟨33, 2, [.agg [.int .i64 x7.Low, .int .i64 x7.High]], 0⟩])] rfl rfl (all1 (VRd.ntl (rd_asB rfl)) all0) ?_
                  refine dops_nil ?_
                  refine vwp_ret ?_
                  obtain rfl := Option.some.inj hF
                  refine fnR ?_
                  exact weak_pick rfl [] (by decide) ⟨rn_low rfl (.bool _), trivial⟩ trivial
  · rintro _ _ _ _ ⟨he, hw⟩
    refine ⟨_, _, _, hw, ?_⟩
    exact bodyQ_pure he [.bool r] ⟨rfl, trivial⟩ (.bool _) ⟨rfl, rfl⟩

end Go.Proofs.Ytlkgcbmodajikaa
