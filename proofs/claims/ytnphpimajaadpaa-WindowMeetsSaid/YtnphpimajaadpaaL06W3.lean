/- Printed by wip/lift/lift.py: the walks that show that the program computes them. -/
import Derived.Test.YtnphpimajaadpaaL06W2
namespace Go.Proofs.Ytnphpimajaadpaa
open Go Go.Aml Go.L
attribute [local irreducible] VRd VEf VOp VOps VWp DOps
set_option linter.unusedVariables false
set_option maxHeartbeats 4000000

theorem F_law06_WindowWidens_ok {p0 : List Int} {p1 : Int} {p2 : Int} {p3 : Int} {r : Bool} (hF : F_law06_WindowWidens p0 p1 p2 p3 = some r) (low : List AObj) :
    VCalls Try.prog 5 [.vs 1 (List.map (PV.int .u8) p0), .int .u8 p1, .int .u8 p2, .int .i64 p3] low fun x low' => x = .bool r ∧ low' = low := by
  refine vcalls_of_body (nt := 100) (rs := [.tmp 8]) Try.func5 rfl rfl (Nat.le_of_ble_eq_true rfl) rfl ?_
  refine vwp_monoW (Q' := FnE (fun E' lw lc => Weak E' lw lc [(8, .bool r)] low [])) ?_ ?_
  · unfold F_law06_WindowWidens at hF
    refine vwp_seq ?_
    refine vwp_region ?_
    refine vops_rd (rd_asB rfl) rfl ?_
    refine vops_nil ?_
    refine vwp_seq ?_
    refine vwp_region ?_
    obtain ⟨x1, h2, hF⟩ := bnd hF
    refine vops_rd (rd_mvV rfl) rfl ?_
    refine vops_efE (vef_callN (r := .ptr (low.length + 0) 0 0 0) (os := [⟨51, 2, [.agg [.vs 1 (List.map (PV.int .u8) x1.l), .int .i64 x1.at_]], 0⟩]) rfl Try.call9 (F_draw_New_ok h2 _ (len_app rfl rfl))) rfl ?_
    refine vops_rd (rd_asP rfl) rfl ?_
    refine vops_nil ?_
    refine vwp_seq ?_
    refine vwp_region ?_
    obtain ⟨x3, h4, hF⟩ := bnd hF
    obtain ⟨x5, h6, hF⟩ := bnd hF
    refine vops_rd (rd_mvP rfl) rfl ?_
    refine vops_efE (vef_callMN (k := 0) (loc1 := [⟨51, 2, [.agg [.vs 1 (List.map (PV.int .u8) x3.1.l), .int .i64 x3.1.at_]], 0⟩]) rfl rfl Try.call14 (F_draw_Codes_Sensor_ok h4 (get_N rfl rfl)) rfl) rfl ?_
    refine vops_rd (rd_mvP rfl) rfl ?_
    refine vops_efE (vef_callMN (k := 0) (loc1 := [⟨51, 2, [.agg [.vs 1 (List.map (PV.int .u8) x5.1.l), .int .i64 x5.1.at_]], 0⟩]) rfl rfl Try.call8 (F_law06_measured_ok h6 (get_N rfl rfl)) rfl) rfl ?_
    refine vops_efE (vef_allocN rfl rfl tz_35 rfl rfl (Nat.succ_pos _) rfl) rfl ?_
    refine vops_efE (vef_allocN rfl rfl tz_26 rfl rfl (Nat.succ_pos _) rfl) rfl ?_
    refine vops_efE (vef_store (p := .agg [.int .i64 x3.2.Address, .int .i64 x3.2.Kind, .int .i64 x3.2.Target, .int .i64 x3.2.Offset, .int .i64 x3.2.Scale, .int .i64 x3.2.Error, .int .i64 x3.2.Drift, .int .i64 x3.2.Life]) (e' := .agg [.int .i64 x3.2.Address, .int .i64 x3.2.Kind, .int .i64 x3.2.Target, .int .i64 x3.2.Offset, .int .i64 x3.2.Scale, .int .i64 x3.2.Error, .int .i64 x3.2.Drift, .int .i64 x3.2.Life]) rfl (getO_N rfl rfl) rfl rfl ts_35 rfl (nt_ne rfl) rfl (Nat.le_of_ble_eq_true rfl) rfl (setO_N rfl rfl)) rfl ?_
    refine vops_efE (vef_store (p := .agg [.int .i64 x5.2.Sensor, .int .i64 x5.2.Time, .int .i64 x5.2.Span.Low, .int .i64 x5.2.Span.High]) (e' := .agg [.int .i64 x5.2.Sensor, .int .i64 x5.2.Time, .int .i64 x5.2.Span.Low, .int .i64 x5.2.Span.High]) rfl (getO_N rfl rfl) rfl rfl ts_26 rfl (nt_ne rfl) rfl (Nat.le_of_ble_eq_true rfl) rfl (setO_N rfl rfl)) rfl ?_
    refine vops_nil ?_
    refine vwp_seq ?_
    refine vwp_seq ?_
    obtain ⟨o7, ho7, hF⟩ := bnd hF
    refine vwp_monoW (Q' := (fun o7 => OnlyE .normal (fun E' lw lc => Weak E' lw lc [(1, .int .u8 p1), (2, .int .u8 p2), (3, .int .i64 p3), (10, .ptr (low.length + 0) 0 0 0), (11, .ptr (low.length + 1) 0 0 0), (31, .bool o7)] low [⟨35, 8, [.agg [.int .i64 x3.2.Address, .int .i64 x3.2.Kind, .int .i64 x3.2.Target, .int .i64 x3.2.Offset, .int .i64 x3.2.Scale, .int .i64 x3.2.Error, .int .i64 x3.2.Drift, .int .i64 x3.2.Life]], 0⟩, ⟨26, 4, [.agg [.int .i64 x5.2.Sensor, .int .i64 x5.2.Time, .int .i64 x5.2.Span.Low, .int .i64 x5.2.Span.High]], 0⟩])) o7) ?_ ?_
    · replace hF := ho7
      rcases Bool.eq_false_or_eq_true (decide (x5.2.Sensor < 0)) with c8 | c8
      · have hF := bifT c8 hF
        refine vwp_drawn [[], [0], [0, 1], [0, 1, 2], [0, 1, 2, 3], [0, 1, 2, 3, 4], [0, 1, 2, 3], [0, 1, 2, 3, 4, 5, 6], [0, 1, 2, 3, 4, 5, 6, 7]] [false, false, false, false, false, false, false, false, false] [(low, [⟨51, 2, [.agg [.vs 1 (List.map (PV.int .u8) x5.1.l), .int .i64 x5.1.at_]], 0⟩, ⟨35, 8, [.agg [.int .i64 x3.2.Address, .int .i64 x3.2.Kind, .int .i64 x3.2.Target, .int .i64 x3.2.Offset, .int .i64 x3.2.Scale, .int .i64 x3.2.Error, .int .i64 x3.2.Drift, .int .i64 x3.2.Life]], 0⟩, ⟨26, 4, [.agg [.int .i64 x5.2.Sensor, .int .i64 x5.2.Time, .int .i64 x5.2.Span.Low, .int .i64 x5.2.Span.High]], 0⟩])] mixed (by kernel_rfl) rfl (lenAll (all1 rfl all0)) rfl (low, [⟨51, 2, [.agg [.vs 1 (List.map (PV.int .u8) x5.1.l), .int .i64 x5.1.at_]], 0⟩, ⟨35, 8, [.agg [.int .i64 x3.2.Address, .int .i64 x3.2.Kind, .int .i64 x3.2.Target, .int .i64 x3.2.Offset, .int .i64 x3.2.Scale, .int .i64 x3.2.Error, .int .i64 x3.2.Drift, .int .i64 x3.2.Life]], 0⟩, ⟨26, 4, [.agg [.int .i64 x5.2.Sensor, .int .i64 x5.2.Time, .int .i64 x5.2.Span.Low, .int .i64 x5.2.Span.High]], 0⟩]) rfl rfl ?_
        refine dops_rdW [(low, [⟨51, 2, [.agg [.vs 1 (List.map (PV.int .u8) x5.1.l), .int .i64 x5.1.at_]], 0⟩, ⟨35, 8, [.agg [.int .i64 x3.2.Address, .int .i64 x3.2.Kind, .int .i64 x3.2.Target, .int .i64 x3.2.Offset, .int .i64 x3.2.Scale, .int .i64 x3.2.Error, .int .i64 x3.2.Drift, .int .i64 x3.2.Life]], 0⟩, ⟨26, 4, [.agg [.int .i64 x5.2.Sensor, .int .i64 x5.2.Time, .int .i64 x5.2.Span.Low, .int .i64 x5.2.Span.High]], 0⟩])] rfl rfl (all1 (VRd.ntl (rd_fieldAddr rfl tf_26_0 ts_3 (by decide))) all0) ?_
        refine dops_rdW [(low, [⟨51, 2, [.agg [.vs 1 (List.map (PV.int .u8) x5.1.l), .int .i64 x5.1.at_]], 0⟩, ⟨35, 8, [.agg [.int .i64 x3.2.Address, .int .i64 x3.2.Kind, .int .i64 x3.2.Target, .int .i64 x3.2.Offset, .int .i64 x3.2.Scale, .int .i64 x3.2.Error, .int .i64 x3.2.Drift, .int .i64 x3.2.Life]], 0⟩, ⟨26, 4, [.agg [.int .i64 x5.2.Sensor, .int .i64 x5.2.Time, .int .i64 x5.2.Span.Low, .int .i64 x5.2.Span.High]], 0⟩])] rfl rfl (all1 (VRd.ntl (rd_load1 rfl (getO_N rfl rfl) rfl ta_3 rfl)) all0) ?_
        refine dops_rdW [(low, [⟨51, 2, [.agg [.vs 1 (List.map (PV.int .u8) x5.1.l), .int .i64 x5.1.at_]], 0⟩, ⟨35, 8, [.agg [.int .i64 x3.2.Address, .int .i64 x3.2.Kind, .int .i64 x3.2.Target, .int .i64 x3.2.Offset, .int .i64 x3.2.Scale, .int .i64 x3.2.Error, .int .i64 x3.2.Drift, .int .i64 x3.2.Life]], 0⟩, ⟨26, 4, [.agg [.int .i64 x5.2.Sensor, .int .i64 x5.2.Time, .int .i64 x5.2.Span.Low, .int .i64 x5.2.Span.High]], 0⟩])] rfl rfl (all1 (VRd.ntl (rd_lss rfl rfl)) all0) ?_
        refine dops_rdW [(low, [⟨51, 2, [.agg [.vs 1 (List.map (PV.int .u8) x5.1.l), .int .i64 x5.1.at_]], 0⟩, ⟨35, 8, [.agg [.int .i64 x3.2.Address, .int .i64 x3.2.Kind, .int .i64 x3.2.Target, .int .i64 x3.2.Offset, .int .i64 x3.2.Scale, .int .i64 x3.2.Error, .int .i64 x3.2.Drift, .int .i64 x3.2.Life]], 0⟩, ⟨26, 4, [.agg [.int .i64 x5.2.Sensor, .int .i64 x5.2.Time, .int .i64 x5.2.Span.Low, .int .i64 x5.2.Span.High]], 0⟩])] rfl rfl (all1 (VRd.ntl (rd_mvB rfl)) all0) ?_
        refine dops_skip rfl rfl rfl (neT c8) ?_
        refine dops_skip rfl rfl rfl (neT c8) ?_
        refine dops_skip rfl rfl rfl (neT c8) ?_
        refine dops_skip rfl rfl rfl (neT c8) ?_
        refine dops_rdW [(low, [⟨51, 2, [.agg [.vs 1 (List.map (PV.int .u8) x5.1.l), .int .i64 x5.1.at_]], 0⟩, ⟨35, 8, [.agg [.int .i64 x3.2.Address, .int .i64 x3.2.Kind, .int .i64 x3.2.Target, .int .i64 x3.2.Offset, .int .i64 x3.2.Scale, .int .i64 x3.2.Error, .int .i64 x3.2.Drift, .int .i64 x3.2.Life]], 0⟩, ⟨26, 4, [.agg [.int .i64 x5.2.Sensor, .int .i64 x5.2.Time, .int .i64 x5.2.Span.Low, .int .i64 x5.2.Span.High]], 0⟩])] rfl rfl (all1 (VRd.ntl (rd_pickT (congrArg PV.bool c8) rfl)) all0) ?_
        refine dops_nil ?_
        obtain rfl := Option.some.inj hF
        refine onlyE ?_
        exact weak_pick rfl [(1, 0), (2, 0)] (by decide) ⟨rn_low rfl (.int _ _), rn_low rfl (.int _ _), rn_low rfl (.int _ _), rn_ptr 0 1 rfl rfl, rn_ptr 1 2 rfl rfl, rn_low rfl (.bool _), trivial⟩ ⟨⟨_, rfl, rfl, .same _ _ _ _ (ltObj_es ⟨(lt_agg ⟨.int _ _, .int _ _, .int _ _, .int _ _, .int _ _, .int _ _, .int _ _, .int _ _, trivial⟩), trivial⟩)⟩, ⟨_, rfl, rfl, .same _ _ _ _ (ltObj_es ⟨(lt_agg ⟨.int _ _, .int _ _, .int _ _, .int _ _, trivial⟩), trivial⟩)⟩, trivial⟩
      · have hF := bifF c8 hF
        obtain ⟨x9, h10, hF⟩ := bnd hF
        refine vwp_drawn [[], [0], [0, 1], [0, 1, 2], [0, 1, 2, 3], [0, 1, 2, 3, 4], [0, 1, 2, 3], [0, 1, 2, 3, 4, 5, 6], [0, 1, 2, 3, 4, 5, 6, 7]] [false, false, false, false, false, false, false, false, false] [(low, [⟨51, 2, [.agg [.vs 1 (List.map (PV.int .u8) x5.1.l), .int .i64 x5.1.at_]], 0⟩, ⟨35, 8, [.agg [.int .i64 x3.2.Address, .int .i64 x3.2.Kind, .int .i64 x3.2.Target, .int .i64 x3.2.Offset, .int .i64 x3.2.Scale, .int .i64 x3.2.Error, .int .i64 x3.2.Drift, .int .i64 x3.2.Life]], 0⟩, ⟨26, 4, [.agg [.int .i64 x5.2.Sensor, .int .i64 x5.2.Time, .int .i64 x5.2.Span.Low, .int .i64 x5.2.Span.High]], 0⟩])] mixed (by kernel_rfl) rfl (lenAll (all1 rfl all0)) rfl (low, [⟨51, 2, [.agg [.vs 1 (List.map (PV.int .u8) x5.1.l), .int .i64 x5.1.at_]], 0⟩, ⟨35, 8, [.agg [.int .i64 x3.2.Address, .int .i64 x3.2.Kind, .int .i64 x3.2.Target, .int .i64 x3.2.Offset, .int .i64 x3.2.Scale, .int .i64 x3.2.Error, .int .i64 x3.2.Drift, .int .i64 x3.2.Life]], 0⟩, ⟨26, 4, [.agg [.int .i64 x5.2.Sensor, .int .i64 x5.2.Time, .int .i64 x5.2.Span.Low, .int .i64 x5.2.Span.High]], 0⟩]) rfl rfl ?_
        refine dops_rdW [(low, [⟨51, 2, [.agg [.vs 1 (List.map (PV.int .u8) x5.1.l), .int .i64 x5.1.at_]], 0⟩, ⟨35, 8, [.agg [.int .i64 x3.2.Address, .int .i64 x3.2.Kind, .int .i64 x3.2.Target, .int .i64 x3.2.Offset, .int .i64 x3.2.Scale, .int .i64 x3.2.Error, .int .i64 x3.2.Drift, .int .i64 x3.2.Life]], 0⟩, ⟨26, 4, [.agg [.int .i64 x5.2.Sensor, .int .i64 x5.2.Time, .int .i64 x5.2.Span.Low, .int .i64 x5.2.Span.High]], 0⟩])] rfl rfl (all1 (VRd.ntl (rd_fieldAddr rfl tf_26_0 ts_3 (by decide))) all0) ?_
        refine dops_rdW [(low, [⟨51, 2, [.agg [.vs 1 (List.map (PV.int .u8) x5.1.l), .int .i64 x5.1.at_]], 0⟩, ⟨35, 8, [.agg [.int .i64 x3.2.Address, .int .i64 x3.2.Kind, .int .i64 x3.2.Target, .int .i64 x3.2.Offset, .int .i64 x3.2.Scale, .int .i64 x3.2.Error, .int .i64 x3.2.Drift, .int .i64 x3.2.Life]], 0⟩, ⟨26, 4, [.agg [.int .i64 x5.2.Sensor, .int .i64 x5.2.Time, .int .i64 x5.2.Span.Low, .int .i64 x5.2.Span.High]], 0⟩])] rfl rfl (all1 (VRd.ntl (rd_load1 rfl (getO_N rfl rfl) rfl ta_3 rfl)) all0) ?_
        refine dops_rdW [(low, [⟨51, 2, [.agg [.vs 1 (List.map (PV.int .u8) x5.1.l), .int .i64 x5.1.at_]], 0⟩, ⟨35, 8, [.agg [.int .i64 x3.2.Address, .int .i64 x3.2.Kind, .int .i64 x3.2.Target, .int .i64 x3.2.Offset, .int .i64 x3.2.Scale, .int .i64 x3.2.Error, .int .i64 x3.2.Drift, .int .i64 x3.2.Life]], 0⟩, ⟨26, 4, [.agg [.int .i64 x5.2.Sensor, .int .i64 x5.2.Time, .int .i64 x5.2.Span.Low, .int .i64 x5.2.Span.High]], 0⟩])] rfl rfl (all1 (VRd.ntl (rd_lss rfl rfl)) all0) ?_
        refine dops_rdW [(low, [⟨51, 2, [.agg [.vs 1 (List.map (PV.int .u8) x5.1.l), .int .i64 x5.1.at_]], 0⟩, ⟨35, 8, [.agg [.int .i64 x3.2.Address, .int .i64 x3.2.Kind, .int .i64 x3.2.Target, .int .i64 x3.2.Offset, .int .i64 x3.2.Scale, .int .i64 x3.2.Error, .int .i64 x3.2.Drift, .int .i64 x3.2.Life]], 0⟩, ⟨26, 4, [.agg [.int .i64 x5.2.Sensor, .int .i64 x5.2.Time, .int .i64 x5.2.Span.Low, .int .i64 x5.2.Span.High]], 0⟩])] rfl rfl (all1 (VRd.ntl (rd_mvB rfl)) all0) ?_
        refine dops_takeW [(low, [⟨51, 2, [.agg [.vs 1 (List.map (PV.int .u8) x5.1.l), .int .i64 x5.1.at_]], 0⟩, ⟨35, 8, [.agg [.int .i64 x3.2.Address, .int .i64 x3.2.Kind, .int .i64 x3.2.Target, .int .i64 x3.2.Offset, .int .i64 x3.2.Scale, .int .i64 x3.2.Error, .int .i64 x3.2.Drift, .int .i64 x3.2.Life]], 0⟩, ⟨26, 4, [.agg [.int .i64 x5.2.Sensor, .int .i64 x5.2.Time, .int .i64 x5.2.Span.Low, .int .i64 x5.2.Span.High]], 0⟩])] rfl rfl rfl (congrArg PV.bool c8) (all1 (VRd.ntl (rd_fieldAddr rfl tf_26_2 ts_24 (by decide))) all0) ?_
        refine dops_takeW [(low, [⟨51, 2, [.agg [.vs 1 (List.map (PV.int .u8) x5.1.l), .int .i64 x5.1.at_]], 0⟩, ⟨35, 8, [.agg [.int .i64 x3.2.Address, .int .i64 x3.2.Kind, .int .i64 x3.2.Target, .int .i64 x3.2.Offset, .int .i64 x3.2.Scale, .int .i64 x3.2.Error, .int .i64 x3.2.Drift, .int .i64 x3.2.Life]], 0⟩, ⟨26, 4, [.agg [.int .i64 x5.2.Sensor, .int .i64 x5.2.Time, .int .i64 x5.2.Span.Low, .int .i64 x5.2.Span.High]], 0⟩])] rfl rfl rfl (congrArg PV.bool c8) (all1 (VRd.ntl (rd_loadN (ds := [.int .i64 x5.2.Span.Low, .int .i64 x5.2.Span.High]) rfl (getO_N rfl rfl) rfl ta_24 ts_24 rfl rfl rfl)) all0) ?_
        refine dops_takeW [(low, [⟨51, 2, [.agg [.vs 1 (List.map (PV.int .u8) x5.1.l), .int .i64 x5.1.at_]], 0⟩, ⟨35, 8, [.agg [.int .i64 x3.2.Address, .int .i64 x3.2.Kind, .int .i64 x3.2.Target, .int .i64 x3.2.Offset, .int .i64 x3.2.Scale, .int .i64 x3.2.Error, .int .i64 x3.2.Drift, .int .i64 x3.2.Life]], 0⟩, ⟨26, 4, [.agg [.int .i64 x5.2.Sensor, .int .i64 x5.2.Time, .int .i64 x5.2.Span.Low, .int .i64 x5.2.Span.High]], 0⟩])] rfl rfl rfl (congrArg PV.bool c8) (all1 (nt_of (vef_callP rfl Try.call18 (F_ref05_Nothing_ok h10 _))) all0) ?_
        refine dops_takeW [(low, [⟨51, 2, [.agg [.vs 1 (List.map (PV.int .u8) x5.1.l), .int .i64 x5.1.at_]], 0⟩, ⟨35, 8, [.agg [.int .i64 x3.2.Address, .int .i64 x3.2.Kind, .int .i64 x3.2.Target, .int .i64 x3.2.Offset, .int .i64 x3.2.Scale, .int .i64 x3.2.Error, .int .i64 x3.2.Drift, .int .i64 x3.2.Life]], 0⟩, ⟨26, 4, [.agg [.int .i64 x5.2.Sensor, .int .i64 x5.2.Time, .int .i64 x5.2.Span.Low, .int .i64 x5.2.Span.High]], 0⟩])] rfl rfl rfl (congrArg PV.bool c8) (all1 (VRd.ntl (rd_eqlV (tab := eqTab) eqTab_ok rfl rfl eqg_24 rfl)) all0) ?_
        refine dops_rdW [(low, [⟨51, 2, [.agg [.vs 1 (List.map (PV.int .u8) x5.1.l), .int .i64 x5.1.at_]], 0⟩, ⟨35, 8, [.agg [.int .i64 x3.2.Address, .int .i64 x3.2.Kind, .int .i64 x3.2.Target, .int .i64 x3.2.Offset, .int .i64 x3.2.Scale, .int .i64 x3.2.Error, .int .i64 x3.2.Drift, .int .i64 x3.2.Life]], 0⟩, ⟨26, 4, [.agg [.int .i64 x5.2.Sensor, .int .i64 x5.2.Time, .int .i64 x5.2.Span.Low, .int .i64 x5.2.Span.High]], 0⟩])] rfl rfl (all1 (VRd.ntl (rd_pickF (congrArg PV.bool c8) rfl)) all0) ?_
        refine dops_nil ?_
        obtain rfl := Option.some.inj hF
        refine onlyE ?_
        exact weak_pick rfl [(1, 0), (2, 0)] (by decide) ⟨rn_low rfl (.int _ _), rn_low rfl (.int _ _), rn_low rfl (.int _ _), rn_ptr 0 1 rfl rfl, rn_ptr 1 2 rfl rfl, rn_low rfl (.bool _), trivial⟩ ⟨⟨_, rfl, rfl, .same _ _ _ _ (ltObj_es ⟨(lt_agg ⟨.int _ _, .int _ _, .int _ _, .int _ _, .int _ _, .int _ _, .int _ _, .int _ _, trivial⟩), trivial⟩)⟩, ⟨_, rfl, rfl, .same _ _ _ _ (ltObj_es ⟨(lt_agg ⟨.int _ _, .int _ _, .int _ _, .int _ _, trivial⟩), trivial⟩)⟩, trivial⟩
    · rintro _ _ _ _ ⟨rfl, hw⟩
      refine ⟨_, _, _, hw, ?_⟩
      refine vwp_cond rfl (fun c11 => ?_) (fun c11 => ?_)
      · have hF := bifT c11 hF
        refine vwp_seq ?_
        refine vwp_region ?_
        obtain ⟨x12, h13, hF⟩ := bnd hF
        refine vops_efE (vef_callP rfl Try.call13 (F_law06_awake_ok h13 _)) rfl ?_
        refine vops_rd (rd_asB rfl) rfl ?_
        refine vops_nil ?_
        refine vwp_ret ?_
        obtain rfl := Option.some.inj hF
        refine fnR ?_
        exact weak_pick rfl [] (by decide) ⟨rn_low rfl (.bool _), trivial⟩ trivial
      · have hF := bifF c11 hF
        refine vwp_skip ?_
        refine vwp_seq ?_
        refine vwp_region ?_
        refine vops_rd (rd_fieldAddr rfl tf_26_1 ts_3 (by decide)) rfl ?_
        refine vops_rd (rd_load1 rfl (getO_N rfl rfl) rfl ta_3 rfl) rfl ?_
        refine vops_rd (rd_mvI rfl) rfl ?_
        refine vops_rd (rd_conv rfl us_5 ti_3 rfl) rfl ?_
        refine vops_rd (rd_add rfl rfl rfl) rfl ?_
        refine vops_rd (rd_asI rfl) rfl ?_
        refine vops_nil ?_
        refine vwp_seq ?_
        obtain ⟨x14, h15, hF⟩ := bnd hF
        obtain ⟨x16, h17, hF⟩ := bnd hF
        refine vwp_weak (weak_room 24 2 (Nat.succ_pos _)) ?_
        refine vwp_weak (weak_room 24 2 (Nat.succ_pos _)) ?_
        refine vwp_drawnX [[], [], [], [0, 1, 2], [], [], [], [6], [0, 1, 2, 3, 4, 5, 6, 7], [], [], [0, 1, 2, 3, 4, 5, 6, 7, 8, 9, 10], [0, 1, 2, 3, 4, 5, 6, 7, 8, 9, 10, 11]] [false, false, false, false, false, false, false, false, false, true, true, true, true] [([], low, [⟨35, 8, [.agg [.int .i64 x3.2.Address, .int .i64 x3.2.Kind, .int .i64 x3.2.Target, .int .i64 x3.2.Offset, .int .i64 x3.2.Scale, .int .i64 x3.2.Error, .int .i64 x3.2.Drift, .int .i64 x3.2.Life]], 0⟩, ⟨26, 4, [.agg [.int .i64 x5.2.Sensor, .int .i64 x5.2.Time, .int .i64 x5.2.Span.Low, .int .i64 x5.2.Span.High]], 0⟩, ⟨24, 2, [], 0⟩, ⟨24, 2, [], 0⟩]), ([9], low, [⟨35, 8, [.agg [.int .i64 x3.2.Address, .int .i64 x3.2.Kind, .int .i64 x3.2.Target, .int .i64 x3.2.Offset, .int .i64 x3.2.Scale, .int .i64 x3.2.Error, .int .i64 x3.2.Drift, .int .i64 x3.2.Life]], 0⟩, ⟨26, 4, [.agg [.int .i64 x5.2.Sensor, .int .i64 x5.2.Time, .int .i64 x5.2.Span.Low, .int .i64 x5.2.Span.High]], 0⟩, ⟨24, 2, [.agg [.int .i64 0, .int .i64 0]], 1⟩, ⟨24, 2, [], 0⟩]), ([10], low, [⟨35, 8, [.agg [.int .i64 x3.2.Address, .int .i64 x3.2.Kind, .int .i64 x3.2.Target, .int .i64 x3.2.Offset, .int .i64 x3.2.Scale, .int .i64 x3.2.Error, .int .i64 x3.2.Drift, .int .i64 x3.2.Life]], 0⟩, ⟨26, 4, [.agg [.int .i64 x5.2.Sensor, .int .i64 x5.2.Time, .int .i64 x5.2.Span.Low, .int .i64 x5.2.Span.High]], 0⟩, ⟨24, 2, [], 0⟩, ⟨24, 2, [.agg [.int .i64 0, .int .i64 0]], 1⟩]), ([9, 10], low, [⟨35, 8, [.agg [.int .i64 x3.2.Address, .int .i64 x3.2.Kind, .int .i64 x3.2.Target, .int .i64 x3.2.Offset, .int .i64 x3.2.Scale, .int .i64 x3.2.Error, .int .i64 x3.2.Drift, .int .i64 x3.2.Life]], 0⟩, ⟨26, 4, [.agg [.int .i64 x5.2.Sensor, .int .i64 x5.2.Time, .int .i64 x5.2.Span.Low, .int .i64 x5.2.Span.High]], 0⟩, ⟨24, 2, [.agg [.int .i64 0, .int .i64 0]], 1⟩, ⟨24, 2, [.agg [.int .i64 0, .int .i64 0]], 1⟩]), ([9, 10, 11], low, [⟨35, 8, [.agg [.int .i64 x3.2.Address, .int .i64 x3.2.Kind, .int .i64 x3.2.Target, .int .i64 x3.2.Offset, .int .i64 x3.2.Scale, .int .i64 x3.2.Error, .int .i64 x3.2.Drift, .int .i64 x3.2.Life]], 0⟩, ⟨26, 4, [.agg [.int .i64 x5.2.Sensor, .int .i64 x5.2.Time, .int .i64 x5.2.Span.Low, .int .i64 x5.2.Span.High]], 0⟩, ⟨24, 2, [.agg [.int .i64 x14.Low, .int .i64 x14.High]], 1⟩, ⟨24, 2, [.agg [.int .i64 0, .int .i64 0]], 1⟩]), ([9, 10, 11, 12], low, [⟨35, 8, [.agg [.int .i64 x3.2.Address, .int .i64 x3.2.Kind, .int .i64 x3.2.Target, .int .i64 x3.2.Offset, .int .i64 x3.2.Scale, .int .i64 x3.2.Error, .int .i64 x3.2.Drift, .int .i64 x3.2.Life]], 0⟩, ⟨26, 4, [.agg [.int .i64 x5.2.Sensor, .int .i64 x5.2.Time, .int .i64 x5.2.Span.Low, .int .i64 x5.2.Span.High]], 0⟩, ⟨24, 2, [.agg [.int .i64 x14.Low, .int .i64 x14.High]], 1⟩, ⟨24, 2, [.agg [.int .i64 x16.Low, .int .i64 x16.High]], 1⟩])] mixed (by kernel_rfl) rfl (lenAllX (allx1 rfl (allx1 rfl (allx1 rfl (allx1 rfl (allx1 rfl (allx1 rfl allx0))))))) rfl [9, 10, 11, 12] (low, [⟨35, 8, [.agg [.int .i64 x3.2.Address, .int .i64 x3.2.Kind, .int .i64 x3.2.Target, .int .i64 x3.2.Offset, .int .i64 x3.2.Scale, .int .i64 x3.2.Error, .int .i64 x3.2.Drift, .int .i64 x3.2.Life]], 0⟩, ⟨26, 4, [.agg [.int .i64 x5.2.Sensor, .int .i64 x5.2.Time, .int .i64 x5.2.Span.Low, .int .i64 x5.2.Span.High]], 0⟩, ⟨24, 2, [.agg [.int .i64 x14.Low, .int .i64 x14.High]], 1⟩, ⟨24, 2, [.agg [.int .i64 x16.Low, .int .i64 x16.High]], 1⟩]) rfl rfl ?_
        refine dopx_rd _ rfl rfl (rx1 (VRd.ntl (rd_loadN (ds := [.int .i64 x3.2.Address, .int .i64 x3.2.Kind, .int .i64 x3.2.Target, .int .i64 x3.2.Offset, .int .i64 x3.2.Scale, .int .i64 x3.2.Error, .int .i64 x3.2.Drift, .int .i64 x3.2.Life]) rfl (getO_N rfl rfl) rfl ta_35 ts_35 rfl rfl rfl)) (rx1 (VRd.ntl (rd_loadN (ds := [.int .i64 x3.2.Address, .int .i64 x3.2.Kind, .int .i64 x3.2.Target, .int .i64 x3.2.Offset, .int .i64 x3.2.Scale, .int .i64 x3.2.Error, .int .i64 x3.2.Drift, .int .i64 x3.2.Life]) rfl (getO_N rfl rfl) rfl ta_35 ts_35 rfl rfl rfl)) (rx1 (VRd.ntl (rd_loadN (ds := [.int .i64 x3.2.Address, .int .i64 x3.2.Kind, .int .i64 x3.2.Target, .int .i64 x3.2.Offset, .int .i64 x3.2.Scale, .int .i64 x3.2.Error, .int .i64 x3.2.Drift, .int .i64 x3.2.Life]) rfl (getO_N rfl rfl) rfl ta_35 ts_35 rfl rfl rfl)) (rx1 (VRd.ntl (rd_loadN (ds := [.int .i64 x3.2.Address, .int .i64 x3.2.Kind, .int .i64 x3.2.Target, .int .i64 x3.2.Offset, .int .i64 x3.2.Scale, .int .i64 x3.2.Error, .int .i64 x3.2.Drift, .int .i64 x3.2.Life]) rfl (getO_N rfl rfl) rfl ta_35 ts_35 rfl rfl rfl)) rx0)))) ?_
        refine dopx_rd _ rfl rfl (rx1 (VRd.ntl (rd_loadN (ds := [.int .i64 x5.2.Sensor, .int .i64 x5.2.Time, .int .i64 x5.2.Span.Low, .int .i64 x5.2.Span.High]) rfl (getO_N rfl rfl) rfl ta_26 ts_26 rfl rfl rfl)) (rx1 (VRd.ntl (rd_loadN (ds := [.int .i64 x5.2.Sensor, .int .i64 x5.2.Time, .int .i64 x5.2.Span.Low, .int .i64 x5.2.Span.High]) rfl (getO_N rfl rfl) rfl ta_26 ts_26 rfl rfl rfl)) (rx1 (VRd.ntl (rd_loadN (ds := [.int .i64 x5.2.Sensor, .int .i64 x5.2.Time, .int .i64 x5.2.Span.Low, .int .i64 x5.2.Span.High]) rfl (getO_N rfl rfl) rfl ta_26 ts_26 rfl rfl rfl)) (rx1 (VRd.ntl (rd_loadN (ds := [.int .i64 x5.2.Sensor, .int .i64 x5.2.Time, .int .i64 x5.2.Span.Low, .int .i64 x5.2.Span.High]) rfl (getO_N rfl rfl) rfl ta_26 ts_26 rfl rfl rfl)) rx0)))) ?_
        refine dopx_rd _ rfl rfl (rx1 (VRd.ntl (rd_mvI rfl)) (rx1 (VRd.ntl (rd_mvI rfl)) (rx1 (VRd.ntl (rd_mvI rfl)) (rx1 (VRd.ntl (rd_mvI rfl)) rx0)))) ?_
        refine dopx_rd _ rfl rfl (rx1 (nt_of (vef_callP rfl Try.call19 (F_window_At_ok h15 _))) (rx1 (nt_of (vef_callP rfl Try.call19 (F_window_At_ok h15 _))) (rx1 (nt_of (vef_callP rfl Try.call19 (F_window_At_ok h15 _))) (rx1 (nt_of (vef_callP rfl Try.call19 (F_window_At_ok h15 _))) rx0)))) ?_
        refine dopx_rd _ rfl rfl (rx1 (VRd.ntl (rd_loadN (ds := [.int .i64 x3.2.Address, .int .i64 x3.2.Kind, .int .i64 x3.2.Target, .int .i64 x3.2.Offset, .int .i64 x3.2.Scale, .int .i64 x3.2.Error, .int .i64 x3.2.Drift, .int .i64 x3.2.Life]) rfl (getO_N rfl rfl) rfl ta_35 ts_35 rfl rfl rfl)) (rx1 (VRd.ntl (rd_loadN (ds := [.int .i64 x3.2.Address, .int .i64 x3.2.Kind, .int .i64 x3.2.Target, .int .i64 x3.2.Offset, .int .i64 x3.2.Scale, .int .i64 x3.2.Error, .int .i64 x3.2.Drift, .int .i64 x3.2.Life]) rfl (getO_N rfl rfl) rfl ta_35 ts_35 rfl rfl rfl)) (rx1 (VRd.ntl (rd_loadN (ds := [.int .i64 x3.2.Address, .int .i64 x3.2.Kind, .int .i64 x3.2.Target, .int .i64 x3.2.Offset, .int .i64 x3.2.Scale, .int .i64 x3.2.Error, .int .i64 x3.2.Drift, .int .i64 x3.2.Life]) rfl (getO_N rfl rfl) rfl ta_35 ts_35 rfl rfl rfl)) (rx1 (VRd.ntl (rd_loadN (ds := [.int .i64 x3.2.Address, .int .i64 x3.2.Kind, .int .i64 x3.2.Target, .int .i64 x3.2.Offset, .int .i64 x3.2.Scale, .int .i64 x3.2.Error, .int .i64 x3.2.Drift, .int .i64 x3.2.Life]) rfl (getO_N rfl rfl) rfl ta_35 ts_35 rfl rfl rfl)) rx0)))) ?_
        refine dopx_rd _ rfl rfl (rx1 (VRd.ntl (rd_loadN (ds := [.int .i64 x5.2.Sensor, .int .i64 x5.2.Time, .int .i64 x5.2.Span.Low, .int .i64 x5.2.Span.High]) rfl (getO_N rfl rfl) rfl ta_26 ts_26 rfl rfl rfl)) (rx1 (VRd.ntl (rd_loadN (ds := [.int .i64 x5.2.Sensor, .int .i64 x5.2.Time, .int .i64 x5.2.Span.Low, .int .i64 x5.2.Span.High]) rfl (getO_N rfl rfl) rfl ta_26 ts_26 rfl rfl rfl)) (rx1 (VRd.ntl (rd_loadN (ds := [.int .i64 x5.2.Sensor, .int .i64 x5.2.Time, .int .i64 x5.2.Span.Low, .int .i64 x5.2.Span.High]) rfl (getO_N rfl rfl) rfl ta_26 ts_26 rfl rfl rfl)) (rx1 (VRd.ntl (rd_loadN (ds := [.int .i64 x5.2.Sensor, .int .i64 x5.2.Time, .int .i64 x5.2.Span.Low, .int .i64 x5.2.Span.High]) rfl (getO_N rfl rfl) rfl ta_26 ts_26 rfl rfl rfl)) rx0)))) ?_
        refine dopx_rd _ rfl rfl (rx1 (VRd.ntl (rd_mvI rfl)) (rx1 (VRd.ntl (rd_mvI rfl)) (rx1 (VRd.ntl (rd_mvI rfl)) (rx1 (VRd.ntl (rd_mvI rfl)) rx0)))) ?_
        refine dopx_rd _ rfl rfl (rx1 (VRd.ntl (rd_add rfl rfl rfl)) (rx1 (VRd.ntl (rd_add rfl rfl rfl)) (rx1 (VRd.ntl (rd_add rfl rfl rfl)) (rx1 (VRd.ntl (rd_add rfl rfl rfl)) rx0)))) ?_
        refine dopx_rd _ rfl rfl (rx1 (nt_of (vef_callP rfl Try.call19 (F_window_At_ok h17 _))) (rx1 (nt_of (vef_callP rfl Try.call19 (F_window_At_ok h17 _))) (rx1 (nt_of (vef_callP rfl Try.call19 (F_window_At_ok h17 _))) (rx1 (nt_of (vef_callP rfl Try.call19 (F_window_At_ok h17 _))) rx0)))) ?_
        refine dopx_ef _ rfl rfl (ex1 1 rfl (vef_into (f := 4) (k := 2) (m := 1) (os := [⟨24, 2, [.agg [.int .i64 0, .int .i64 0]], 0⟩]) (os' := [⟨24, 2, [.agg [.int .i64 0, .int .i64 0]], 1⟩]) (v := .ptr (low.length + 4) 0 0 0) rfl rfl rfl ⟨⟨_, rfl, rfl⟩, trivial⟩ (vef_allocN rfl rfl tz_24 rfl rfl (Nat.succ_pos _) rfl) (mv_ptr 0 rfl rfl rfl rfl) ⟨.same _ _ _ (ltObj_es ⟨(lt_agg ⟨.int _ _, .int _ _, trivial⟩), trivial⟩), trivial⟩ rfl) (ex1 3 rfl (vef_into (f := 4) (k := 2) (m := 1) (os := [⟨24, 2, [.agg [.int .i64 0, .int .i64 0]], 0⟩]) (os' := [⟨24, 2, [.agg [.int .i64 0, .int .i64 0]], 1⟩]) (v := .ptr (low.length + 4) 0 0 0) rfl rfl rfl ⟨⟨_, rfl, rfl⟩, trivial⟩ (vef_allocN rfl rfl tz_24 rfl rfl (Nat.succ_pos _) rfl) (mv_ptr 0 rfl rfl rfl rfl) ⟨.same _ _ _ (ltObj_es ⟨(lt_agg ⟨.int _ _, .int _ _, trivial⟩), trivial⟩), trivial⟩ rfl) ex0)) ?_
        refine dopx_ef _ rfl rfl (ex1 2 rfl (vef_into (f := 4) (k := 3) (m := 1) (os := [⟨24, 2, [.agg [.int .i64 0, .int .i64 0]], 0⟩]) (os' := [⟨24, 2, [.agg [.int .i64 0, .int .i64 0]], 1⟩]) (v := .ptr (low.length + 4) 0 0 0) rfl rfl rfl ⟨⟨_, rfl, rfl⟩, trivial⟩ (vef_allocN rfl rfl tz_24 rfl rfl (Nat.succ_pos _) rfl) (mv_ptr 0 rfl rfl rfl rfl) ⟨.same _ _ _ (ltObj_es ⟨(lt_agg ⟨.int _ _, .int _ _, trivial⟩), trivial⟩), trivial⟩ rfl) (ex1 3 rfl (vef_into (f := 4) (k := 3) (m := 1) (os := [⟨24, 2, [.agg [.int .i64 0, .int .i64 0]], 0⟩]) (os' := [⟨24, 2, [.agg [.int .i64 0, .int .i64 0]], 1⟩]) (v := .ptr (low.length + 4) 0 0 0) rfl rfl rfl ⟨⟨_, rfl, rfl⟩, trivial⟩ (vef_allocN rfl rfl tz_24 rfl rfl (Nat.succ_pos _) rfl) (mv_ptr 0 rfl rfl rfl rfl) ⟨.same _ _ _ (ltObj_es ⟨(lt_agg ⟨.int _ _, .int _ _, trivial⟩), trivial⟩), trivial⟩ rfl) ex0)) ?_
        refine dopx_ef _ rfl rfl (ex1 4 rfl (vef_store (p := .agg [.int .i64 x14.Low, .int .i64 x14.High]) (e' := .agg [.int .i64 x14.Low, .int .i64 x14.High]) rfl (getO_N rfl rfl) rfl rfl ts_24 rfl (nt_ne rfl) rfl (Nat.le_of_ble_eq_true rfl) rfl (setO_N rfl rfl)) ex0) ?_
        refine dopx_ef _ rfl rfl (ex1 5 rfl (vef_store (p := .agg [.int .i64 x16.Low, .int .i64 x16.High]) (e' := .agg [.int .i64 x16.Low, .int .i64 x16.High]) rfl (getO_N rfl rfl) rfl rfl ts_24 rfl (nt_ne rfl) rfl (Nat.le_of_ble_eq_true rfl) rfl (setO_N rfl rfl)) ex0) ?_
        refine dopx_nil ?_
        refine vwp_seq ?_
        refine vwp_seq ?_
        obtain ⟨o18, ho18, hF⟩ := bnd hF
        refine vwp_monoW (Q' := (fun o18 => OnlyE .normal (fun E' lw lc => Weak E' lw lc [(1, .int .u8 p1), (2, .int .u8 p2), (3, .int .i64 p3), (10, .ptr (low.length + 0) 0 0 0), (11, .ptr (low.length + 1) 0 0 0), (13, .ptr (low.length + 2) 0 0 0), (58, .bool o18)] low [⟨35, 8, [.agg [.int .i64 x3.2.Address, .int .i64 x3.2.Kind, .int .i64 x3.2.Target, .int .i64 x3.2.Offset, .int .i64 x3.2.Scale, .int .i64 x3.2.Error, .int .i64 x3.2.Drift, .int .i64 x3.2.Life]], 0⟩, ⟨26, 4, [.agg [.int .i64 x5.2.Sensor, .int .i64 x5.2.Time, .int .i64 x5.2.Span.Low, .int .i64 x5.2.Span.High]], 0⟩, ⟨24, 2, [.agg [.int .i64 x14.Low, .int .i64 x14.High]], 0⟩])) o18) ?_ ?_
        · replace hF := ho18
          refine vwp_region ?_
          rcases Bool.eq_false_or_eq_true (decide (x14.Low < x16.Low)) with c19 | c19
          · have hF := bifT c19 hF
            refine vops_rd (rd_fieldAddr rfl tf_24_0 ts_3 (by decide)) rfl ?_
            refine vops_rd (rd_load1 rfl (getO_N rfl rfl) rfl ta_3 rfl) rfl ?_
            refine vops_rd (rd_fieldAddr rfl tf_24_0 ts_3 (by decide)) rfl ?_
            refine vops_rd (rd_load1 rfl (getO_N rfl rfl) rfl ta_3 rfl) rfl ?_
            refine vops_rd (rd_gtr rfl rfl) rfl ?_
            refine vops_rd (rd_mvB rfl) rfl ?_
            refine vops_skip rfl rfl (neT c19) rfl ?_
            refine vops_skip rfl rfl (neT c19) rfl ?_
            refine vops_skip rfl rfl (neT c19) rfl ?_
            refine vops_skip rfl rfl (neT c19) rfl ?_
            refine vops_skip rfl rfl (neT c19) rfl ?_
            refine vops_rd (rd_pickT (congrArg PV.bool c19) rfl) rfl ?_
            refine vops_nil ?_
            obtain rfl := Option.some.inj hF
            refine onlyE ?_
            exact weak_pick rfl [(0, 0), (1, 0), (2, 1)] (by decide) ⟨rn_low rfl (.int _ _), rn_low rfl (.int _ _), rn_low rfl (.int _ _), rn_ptr 0 0 rfl rfl, rn_ptr 1 1 rfl rfl, rn_ptr 2 2 rfl rfl, rn_low rfl (.bool _), trivial⟩ ⟨⟨_, rfl, rfl, .same _ _ _ _ (ltObj_es ⟨(lt_agg ⟨.int _ _, .int _ _, .int _ _, .int _ _, .int _ _, .int _ _, .int _ _, .int _ _, trivial⟩), trivial⟩)⟩, ⟨_, rfl, rfl, .same _ _ _ _ (ltObj_es ⟨(lt_agg ⟨.int _ _, .int _ _, .int _ _, .int _ _, trivial⟩), trivial⟩)⟩, ⟨_, rfl, rfl, .same _ _ _ _ (ltObj_es ⟨(lt_agg ⟨.int _ _, .int _ _, trivial⟩), trivial⟩)⟩, trivial⟩
          · have hF := bifF c19 hF
            refine vops_rd (rd_fieldAddr rfl tf_24_0 ts_3 (by decide)) rfl ?_
            refine vops_rd (rd_load1 rfl (getO_N rfl rfl) rfl ta_3 rfl) rfl ?_
            refine vops_rd (rd_fieldAddr rfl tf_24_0 ts_3 (by decide)) rfl ?_
            refine vops_rd (rd_load1 rfl (getO_N rfl rfl) rfl ta_3 rfl) rfl ?_
            refine vops_rd (rd_gtr rfl rfl) rfl ?_
            refine vops_rd (rd_mvB rfl) rfl ?_
            refine vops_take rfl (congrArg PV.bool c19) ?_
            refine vops_rd (rd_fieldAddr rfl tf_24_1 ts_3 (by decide)) rfl ?_
            refine vops_take rfl (congrArg PV.bool c19) ?_
            refine vops_rd (rd_load1 rfl (getO_N rfl rfl) rfl ta_3 rfl) rfl ?_
            refine vops_take rfl (congrArg PV.bool c19) ?_
            refine vops_rd (rd_fieldAddr rfl tf_24_1 ts_3 (by decide)) rfl ?_
            refine vops_take rfl (congrArg PV.bool c19) ?_
            refine vops_rd (rd_load1 rfl (getO_N rfl rfl) rfl ta_3 rfl) rfl ?_
            refine vops_take rfl (congrArg PV.bool c19) ?_
            refine vops_rd (rd_lss rfl rfl) rfl ?_
            refine vops_rd (rd_pickF (congrArg PV.bool c19) rfl) rfl ?_
            refine vops_nil ?_
            obtain rfl := Option.some.inj hF
            refine onlyE ?_
            exact weak_pick rfl [(0, 0), (1, 0), (2, 1)] (by decide) ⟨rn_low rfl (.int _ _), rn_low rfl (.int _ _), rn_low rfl (.int _ _), rn_ptr 0 0 rfl rfl, rn_ptr 1 1 rfl rfl, rn_ptr 2 2 rfl rfl, rn_low rfl (.bool _), trivial⟩ ⟨⟨_, rfl, rfl, .same _ _ _ _ (ltObj_es ⟨(lt_agg ⟨.int _ _, .int _ _, .int _ _, .int _ _, .int _ _, .int _ _, .int _ _, .int _ _, trivial⟩), trivial⟩)⟩, ⟨_, rfl, rfl, .same _ _ _ _ (ltObj_es ⟨(lt_agg ⟨.int _ _, .int _ _, .int _ _, .int _ _, trivial⟩), trivial⟩)⟩, ⟨_, rfl, rfl, .same _ _ _ _ (ltObj_es ⟨(lt_agg ⟨.int _ _, .int _ _, trivial⟩), trivial⟩)⟩, trivial⟩
        · rintro _ _ _ _ ⟨rfl, hw⟩
          refine ⟨_, _, _, hw, ?_⟩
          refine vwp_cond rfl (fun c20 => ?_) (fun c20 => ?_)
          · have hF := bifT c20 hF
            refine vwp_seq ?_
            refine vwp_region ?_
            refine vops_rd (rd_asB rfl) rfl ?_
            refine vops_nil ?_
            refine vwp_ret ?_
            obtain rfl := Option.some.inj hF
            refine fnR ?_
            exact weak_pick rfl [] (by decide) ⟨rn_low rfl (.bool _), trivial⟩ trivial
          · have hF := bifF c20 hF
            refine vwp_skip ?_
            refine vwp_seq ?_
            obtain ⟨x21, h22, hF⟩ := bnd hF
            refine vwp_drawn [[], [0], [0, 1], [], [], [4], [4, 5], [], [7], [7, 8], [4, 5, 6, 7, 8, 9], [4, 5, 6, 7, 8, 9, 10], [3, 4, 5, 6, 7, 8, 9, 10, 11], [0, 1, 2, 3, 4, 5, 6, 7, 8, 9, 10, 11, 12], [0, 1, 2, 3, 4, 5, 6, 7, 8, 9, 10, 11, 12, 13]] [false, false, false, false, false, false, false, false, false, false, false, false, false, false, false] [(low, [⟨35, 8, [.agg [.int .i64 x3.2.Address, .int .i64 x3.2.Kind, .int .i64 x3.2.Target, .int .i64 x3.2.Offset, .int .i64 x3.2.Scale, .int .i64 x3.2.Error, .int .i64 x3.2.Drift, .int .i64 x3.2.Life]], 0⟩, ⟨26, 4, [.agg [.int .i64 x5.2.Sensor, .int .i64 x5.2.Time, .int .i64 x5.2.Span.Low, .int .i64 x5.2.Span.High]], 0⟩, ⟨24, 2, [.agg [.int .i64 x14.Low, .int .i64 x14.High]], 0⟩])] mixed (by kernel_rfl) rfl (lenAll (all1 rfl all0)) rfl (low, [⟨35, 8, [.agg [.int .i64 x3.2.Address, .int .i64 x3.2.Kind, .int .i64 x3.2.Target, .int .i64 x3.2.Offset, .int .i64 x3.2.Scale, .int .i64 x3.2.Error, .int .i64 x3.2.Drift, .int .i64 x3.2.Life]], 0⟩, ⟨26, 4, [.agg [.int .i64 x5.2.Sensor, .int .i64 x5.2.Time, .int .i64 x5.2.Span.Low, .int .i64 x5.2.Span.High]], 0⟩, ⟨24, 2, [.agg [.int .i64 x14.Low, .int .i64 x14.High]], 0⟩]) rfl rfl ?_
            refine dops_rdW [(low, [⟨35, 8, [.agg [.int .i64 x3.2.Address, .int .i64 x3.2.Kind, .int .i64 x3.2.Target, .int .i64 x3.2.Offset, .int .i64 x3.2.Scale, .int .i64 x3.2.Error, .int .i64 x3.2.Drift, .int .i64 x3.2.Life]], 0⟩, ⟨26, 4, [.agg [.int .i64 x5.2.Sensor, .int .i64 x5.2.Time, .int .i64 x5.2.Span.Low, .int .i64 x5.2.Span.High]], 0⟩, ⟨24, 2, [.agg [.int .i64 x14.Low, .int .i64 x14.High]], 0⟩])] rfl rfl (all1 (VRd.ntl (rd_fieldAddr rfl tf_26_2 ts_24 (by decide))) all0) ?_
            refine dops_rdW [(low, [⟨35, 8, [.agg [.int .i64 x3.2.Address, .int .i64 x3.2.Kind, .int .i64 x3.2.Target, .int .i64 x3.2.Offset, .int .i64 x3.2.Scale, .int .i64 x3.2.Error, .int .i64 x3.2.Drift, .int .i64 x3.2.Life]], 0⟩, ⟨26, 4, [.agg [.int .i64 x5.2.Sensor, .int .i64 x5.2.Time, .int .i64 x5.2.Span.Low, .int .i64 x5.2.Span.High]], 0⟩, ⟨24, 2, [.agg [.int .i64 x14.Low, .int .i64 x14.High]], 0⟩])] rfl rfl (all1 (VRd.ntl (rd_fieldAddr rfl tf_24_0 ts_3 (by decide))) all0) ?_
            refine dops_rdW [(low, [⟨35, 8, [.agg [.int .i64 x3.2.Address, .int .i64 x3.2.Kind, .int .i64 x3.2.Target, .int .i64 x3.2.Offset, .int .i64 x3.2.Scale, .int .i64 x3.2.Error, .int .i64 x3.2.Drift, .int .i64 x3.2.Life]], 0⟩, ⟨26, 4, [.agg [.int .i64 x5.2.Sensor, .int .i64 x5.2.Time, .int .i64 x5.2.Span.Low, .int .i64 x5.2.Span.High]], 0⟩, ⟨24, 2, [.agg [.int .i64 x14.Low, .int .i64 x14.High]], 0⟩])] rfl rfl (all1 (VRd.ntl (rd_load1 rfl (getO_N rfl rfl) rfl ta_3 rfl)) all0) ?_
            refine dops_rdW [(low, [⟨35, 8, [.agg [.int .i64 x3.2.Address, .int .i64 x3.2.Kind, .int .i64 x3.2.Target, .int .i64 x3.2.Offset, .int .i64 x3.2.Scale, .int .i64 x3.2.Error, .int .i64 x3.2.Drift, .int .i64 x3.2.Life]], 0⟩, ⟨26, 4, [.agg [.int .i64 x5.2.Sensor, .int .i64 x5.2.Time, .int .i64 x5.2.Span.Low, .int .i64 x5.2.Span.High]], 0⟩, ⟨24, 2, [.agg [.int .i64 x14.Low, .int .i64 x14.High]], 0⟩])] rfl rfl (all1 (VRd.ntl (rd_mvI rfl)) all0) ?_
            refine dops_rdW [(low, [⟨35, 8, [.agg [.int .i64 x3.2.Address, .int .i64 x3.2.Kind, .int .i64 x3.2.Target, .int .i64 x3.2.Offset, .int .i64 x3.2.Scale, .int .i64 x3.2.Error, .int .i64 x3.2.Drift, .int .i64 x3.2.Life]], 0⟩, ⟨26, 4, [.agg [.int .i64 x5.2.Sensor, .int .i64 x5.2.Time, .int .i64 x5.2.Span.Low, .int .i64 x5.2.Span.High]], 0⟩, ⟨24, 2, [.agg [.int .i64 x14.Low, .int .i64 x14.High]], 0⟩])] rfl rfl (all1 (VRd.ntl (rd_fieldAddr rfl tf_26_2 ts_24 (by decide))) all0) ?_
            refine dops_rdW [(low, [⟨35, 8, [.agg [.int .i64 x3.2.Address, .int .i64 x3.2.Kind, .int .i64 x3.2.Target, .int .i64 x3.2.Offset, .int .i64 x3.2.Scale, .int .i64 x3.2.Error, .int .i64 x3.2.Drift, .int .i64 x3.2.Life]], 0⟩, ⟨26, 4, [.agg [.int .i64 x5.2.Sensor, .int .i64 x5.2.Time, .int .i64 x5.2.Span.Low, .int .i64 x5.2.Span.High]], 0⟩, ⟨24, 2, [.agg [.int .i64 x14.Low, .int .i64 x14.High]], 0⟩])] rfl rfl (all1 (VRd.ntl (rd_fieldAddr rfl tf_24_1 ts_3 (by decide))) all0) ?_
            refine dops_rdW [(low, [⟨35, 8, [.agg [.int .i64 x3.2.Address, .int .i64 x3.2.Kind, .int .i64 x3.2.Target, .int .i64 x3.2.Offset, .int .i64 x3.2.Scale, .int .i64 x3.2.Error, .int .i64 x3.2.Drift, .int .i64 x3.2.Life]], 0⟩, ⟨26, 4, [.agg [.int .i64 x5.2.Sensor, .int .i64 x5.2.Time, .int .i64 x5.2.Span.Low, .int .i64 x5.2.Span.High]], 0⟩, ⟨24, 2, [.agg [.int .i64 x14.Low, .int .i64 x14.High]], 0⟩])] rfl rfl (all1 (VRd.ntl (rd_load1 rfl (getO_N rfl rfl) rfl ta_3 rfl)) all0) ?_
            refine dops_rdW [(low, [⟨35, 8, [.agg [.int .i64 x3.2.Address, .int .i64 x3.2.Kind, .int .i64 x3.2.Target, .int .i64 x3.2.Offset, .int .i64 x3.2.Scale, .int .i64 x3.2.Error, .int .i64 x3.2.Drift, .int .i64 x3.2.Life]], 0⟩, ⟨26, 4, [.agg [.int .i64 x5.2.Sensor, .int .i64 x5.2.Time, .int .i64 x5.2.Span.Low, .int .i64 x5.2.Span.High]], 0⟩, ⟨24, 2, [.agg [.int .i64 x14.Low, .int .i64 x14.High]], 0⟩])] rfl rfl (all1 (VRd.ntl (rd_fieldAddr rfl tf_26_2 ts_24 (by decide))) all0) ?_
            refine dops_rdW [(low, [⟨35, 8, [.agg [.int .i64 x3.2.Address, .int .i64 x3.2.Kind, .int .i64 x3.2.Target, .int .i64 x3.2.Offset, .int .i64 x3.2.Scale, .int .i64 x3.2.Error, .int .i64 x3.2.Drift, .int .i64 x3.2.Life]], 0⟩, ⟨26, 4, [.agg [.int .i64 x5.2.Sensor, .int .i64 x5.2.Time, .int .i64 x5.2.Span.Low, .int .i64 x5.2.Span.High]], 0⟩, ⟨24, 2, [.agg [.int .i64 x14.Low, .int .i64 x14.High]], 0⟩])] rfl rfl (all1 (VRd.ntl (rd_fieldAddr rfl tf_24_0 ts_3 (by decide))) all0) ?_
            refine dops_rdW [(low, [⟨35, 8, [.agg [.int .i64 x3.2.Address, .int .i64 x3.2.Kind, .int .i64 x3.2.Target, .int .i64 x3.2.Offset, .int .i64 x3.2.Scale, .int .i64 x3.2.Error, .int .i64 x3.2.Drift, .int .i64 x3.2.Life]], 0⟩, ⟨26, 4, [.agg [.int .i64 x5.2.Sensor, .int .i64 x5.2.Time, .int .i64 x5.2.Span.Low, .int .i64 x5.2.Span.High]], 0⟩, ⟨24, 2, [.agg [.int .i64 x14.Low, .int .i64 x14.High]], 0⟩])] rfl rfl (all1 (VRd.ntl (rd_load1 rfl (getO_N rfl rfl) rfl ta_3 rfl)) all0) ?_
            refine dops_rdW [(low, [⟨35, 8, [.agg [.int .i64 x3.2.Address, .int .i64 x3.2.Kind, .int .i64 x3.2.Target, .int .i64 x3.2.Offset, .int .i64 x3.2.Scale, .int .i64 x3.2.Error, .int .i64 x3.2.Drift, .int .i64 x3.2.Life]], 0⟩, ⟨26, 4, [.agg [.int .i64 x5.2.Sensor, .int .i64 x5.2.Time, .int .i64 x5.2.Span.Low, .int .i64 x5.2.Span.High]], 0⟩, ⟨24, 2, [.agg [.int .i64 x14.Low, .int .i64 x14.High]], 0⟩])] rfl rfl (all1 (VRd.ntl (rd_sub rfl rfl rfl)) all0) ?_
            refine dops_rdW [(low, [⟨35, 8, [.agg [.int .i64 x3.2.Address, .int .i64 x3.2.Kind, .int .i64 x3.2.Target, .int .i64 x3.2.Offset, .int .i64 x3.2.Scale, .int .i64 x3.2.Error, .int .i64 x3.2.Drift, .int .i64 x3.2.Life]], 0⟩, ⟨26, 4, [.agg [.int .i64 x5.2.Sensor, .int .i64 x5.2.Time, .int .i64 x5.2.Span.Low, .int .i64 x5.2.Span.High]], 0⟩, ⟨24, 2, [.agg [.int .i64 x14.Low, .int .i64 x14.High]], 0⟩])] rfl rfl (all1 (VRd.ntl (rd_add rfl rfl rfl)) all0) ?_
            refine dops_rdW [(low, [⟨35, 8, [.agg [.int .i64 x3.2.Address, .int .i64 x3.2.Kind, .int .i64 x3.2.Target, .int .i64 x3.2.Offset, .int .i64 x3.2.Scale, .int .i64 x3.2.Error, .int .i64 x3.2.Drift, .int .i64 x3.2.Life]], 0⟩, ⟨26, 4, [.agg [.int .i64 x5.2.Sensor, .int .i64 x5.2.Time, .int .i64 x5.2.Span.Low, .int .i64 x5.2.Span.High]], 0⟩, ⟨24, 2, [.agg [.int .i64 x14.Low, .int .i64 x14.High]], 0⟩])] rfl rfl (all1 (nt_of (vef_callP rfl Try.call10 (F_draw_Mod_ok h22 _))) all0) ?_
            refine dops_rdW [(low, [⟨35, 8, [.agg [.int .i64 x3.2.Address, .int .i64 x3.2.Kind, .int .i64 x3.2.Target, .int .i64 x3.2.Offset, .int .i64 x3.2.Scale, .int .i64 x3.2.Error, .int .i64 x3.2.Drift, .int .i64 x3.2.Life]], 0⟩, ⟨26, 4, [.agg [.int .i64 x5.2.Sensor, .int .i64 x5.2.Time, .int .i64 x5.2.Span.Low, .int .i64 x5.2.Span.High]], 0⟩, ⟨24, 2, [.agg [.int .i64 x14.Low, .int .i64 x14.High]], 0⟩])] rfl rfl (all1 (VRd.ntl (rd_add rfl rfl rfl)) all0) ?_
            refine dops_rdW [(low, [⟨35, 8, [.agg [.int .i64 x3.2.Address, .int .i64 x3.2.Kind, .int .i64 x3.2.Target, .int .i64 x3.2.Offset, .int .i64 x3.2.Scale, .int .i64 x3.2.Error, .int .i64 x3.2.Drift, .int .i64 x3.2.Life]], 0⟩, ⟨26, 4, [.agg [.int .i64 x5.2.Sensor, .int .i64 x5.2.Time, .int .i64 x5.2.Span.Low, .int .i64 x5.2.Span.High]], 0⟩, ⟨24, 2, [.agg [.int .i64 x14.Low, .int .i64 x14.High]], 0⟩])] rfl rfl (all1 (VRd.ntl (rd_asI rfl)) all0) ?_
            refine dops_nil ?_
            refine vwp_seq ?_
            refine vwp_region ?_
            obtain ⟨x23, h24, hF⟩ := bnd hF
            refine vops_rd (rd_mvI rfl) rfl ?_
            refine vops_rd (rd_conv rfl us_5 ti_3 rfl) rfl ?_
            refine vops_rd (rd_fieldAddr rfl tf_35_6 ts_3 (by decide)) rfl ?_
            refine vops_rd (rd_load1 rfl (getO_N rfl rfl) rfl ta_3 rfl) rfl ?_
            refine vops_rd (rd_mvI rfl) rfl ?_
            refine vops_rd (rd_conv rfl us_5 ti_3 rfl) rfl ?_
            refine vops_rd (rd_mul rfl rfl rfl) rfl ?_
            refine vops_rd (rd_quo rfl rfl (by decide) rfl) rfl ?_
            refine vops_rd (rd_add rfl rfl rfl) rfl ?_
            refine vops_efE (vef_callP rfl Try.call10 (F_draw_Mod_ok h24 _)) rfl ?_
            refine vops_rd (rd_asI rfl) rfl ?_
            refine vops_nil ?_
            refine vwp_seq ?_
            refine vwp_region ?_
            rcases Bool.eq_false_or_eq_true (decide (x14.Low ≤ (IntKind.i64.wrap ((IntKind.i64.wrap (x5.2.Span.Low + x21)) - x23)))) with c25 | c25
            · have hF := bifT c25 hF
              rcases Bool.eq_false_or_eq_true (decide ((IntKind.i64.wrap ((IntKind.i64.wrap (x5.2.Span.Low + x21)) + x23)) ≤ x14.High)) with c26 | c26
              · have hF := bifT c26 hF
                obtain ⟨x27, h28, hF⟩ := bnd hF
                refine vops_rd (rd_fieldAddr rfl tf_24_0 ts_3 (by decide)) rfl ?_
                refine vops_rd (rd_load1 rfl (getO_N rfl rfl) rfl ta_3 rfl) rfl ?_
                refine vops_rd (rd_mvI rfl) rfl ?_
                refine vops_rd (rd_mvI rfl) rfl ?_
                refine vops_rd (rd_sub rfl rfl rfl) rfl ?_
                refine vops_rd (rd_leq rfl rfl) rfl ?_
                refine vops_rd (rd_mvB rfl) rfl ?_
                refine vops_take rfl (congrArg PV.bool c25) ?_
                refine vops_rd (rd_mvI rfl) rfl ?_
                refine vops_take rfl (congrArg PV.bool c25) ?_
                refine vops_rd (rd_mvI rfl) rfl ?_
                refine vops_take rfl (congrArg PV.bool c25) ?_
                refine vops_rd (rd_add rfl rfl rfl) rfl ?_
                refine vops_take rfl (congrArg PV.bool c25) ?_
                refine vops_rd (rd_fieldAddr rfl tf_24_1 ts_3 (by decide)) rfl ?_
                refine vops_take rfl (congrArg PV.bool c25) ?_
                refine vops_rd (rd_load1 rfl (getO_N rfl rfl) rfl ta_3 rfl) rfl ?_
                refine vops_take rfl (congrArg PV.bool c25) ?_
                refine vops_rd (rd_leq rfl rfl) rfl ?_
                refine vops_rd (rd_pickT (congrArg PV.bool c25) rfl) rfl ?_
                refine vops_rd (rd_mvB rfl) rfl ?_
                refine vops_take rfl (congrArg PV.bool c26) ?_
                refine vops_efE (vef_callP rfl Try.call13 (F_law06_awake_ok h28 _)) rfl ?_
                refine vops_rd (rd_pickT (congrArg PV.bool c26) rfl) rfl ?_
                refine vops_rd (rd_asB rfl) rfl ?_
                refine vops_nil ?_
                refine vwp_ret ?_
                obtain rfl := Option.some.inj hF
                refine fnR ?_
                exact weak_pick rfl [] (by decide) ⟨rn_low rfl (.bool _), trivial⟩ trivial
              · have hF := bifF c26 hF
                refine vops_rd (rd_fieldAddr rfl tf_24_0 ts_3 (by decide)) rfl ?_
                refine vops_rd (rd_load1 rfl (getO_N rfl rfl) rfl ta_3 rfl) rfl ?_
                refine vops_rd (rd_mvI rfl) rfl ?_
                refine vops_rd (rd_mvI rfl) rfl ?_
                refine vops_rd (rd_sub rfl rfl rfl) rfl ?_
                refine vops_rd (rd_leq rfl rfl) rfl ?_
                refine vops_rd (rd_mvB rfl) rfl ?_
                refine vops_take rfl (congrArg PV.bool c25) ?_
                refine vops_rd (rd_mvI rfl) rfl ?_
                refine vops_take rfl (congrArg PV.bool c25) ?_
                refine vops_rd (rd_mvI rfl) rfl ?_
                refine vops_take rfl (congrArg PV.bool c25) ?_
                refine vops_rd (rd_add rfl rfl rfl) rfl ?_
                refine vops_take rfl (congrArg PV.bool c25) ?_
                refine vops_rd (rd_fieldAddr rfl tf_24_1 ts_3 (by decide)) rfl ?_
                refine vops_take rfl (congrArg PV.bool c25) ?_
                refine vops_rd (rd_load1 rfl (getO_N rfl rfl) rfl ta_3 rfl) rfl ?_
                refine vops_take rfl (congrArg PV.bool c25) ?_
                refine vops_rd (rd_leq rfl rfl) rfl ?_
                refine vops_rd (rd_pickT (congrArg PV.bool c25) rfl) rfl ?_
                refine vops_rd (rd_mvB rfl) rfl ?_
                refine vops_skip rfl rfl (neF c26) rfl ?_
                refine vops_rd (rd_pickF (congrArg PV.bool c26) rfl) rfl ?_
                refine vops_rd (rd_asB rfl) rfl ?_
                refine vops_nil ?_
                refine vwp_ret ?_
                obtain rfl := Option.some.inj hF
                refine fnR ?_
                exact weak_pick rfl [] (by decide) ⟨rn_low rfl (.bool _), trivial⟩ trivial
            · have hF := bifF c25 hF
              refine vops_rd (rd_fieldAddr rfl tf_24_0 ts_3 (by decide)) rfl ?_
              refine vops_rd (rd_load1 rfl (getO_N rfl rfl) rfl ta_3 rfl) rfl ?_
              refine vops_rd (rd_mvI rfl) rfl ?_
              refine vops_rd (rd_mvI rfl) rfl ?_
              refine vops_rd (rd_sub rfl rfl rfl) rfl ?_
              refine vops_rd (rd_leq rfl rfl) rfl ?_
              refine vops_rd (rd_mvB rfl) rfl ?_
              refine vops_skip rfl rfl (neF c25) rfl ?_
              refine vops_skip rfl rfl (neF c25) rfl ?_
              refine vops_skip rfl rfl (neF c25) rfl ?_
              refine vops_skip rfl rfl (neF c25) rfl ?_
              refine vops_skip rfl rfl (neF c25) rfl ?_
              refine vops_skip rfl rfl (neF c25) rfl ?_
              refine vops_rd (rd_pickF (congrArg PV.bool c25) rfl) rfl ?_
              refine vops_rd (rd_mvB rfl) rfl ?_
              refine vops_skip rfl rfl (by decide) rfl ?_
              refine vops_rd (rd_pickF rfl rfl) rfl ?_
              refine vops_rd (rd_asB rfl) rfl ?_
              refine vops_nil ?_
              refine vwp_ret ?_
              obtain rfl := Option.some.inj hF
              refine fnR ?_
              exact weak_pick rfl [] (by decide) ⟨rn_low rfl (.bool _), trivial⟩ trivial
  · rintro _ _ _ _ ⟨he, hw⟩
    refine ⟨_, _, _, hw, ?_⟩
    exact bodyQ_pure he [.bool r] ⟨rfl, trivial⟩ (.bool _) ⟨rfl, rfl⟩

theorem F_ref06_Meet_ok {p0 : List T_Span} {r : T_Span × Bool} (hF : F_ref06_Meet p0 = some r) (low : List AObj) :
    VCalls Try.prog 23 [.vs 2 (List.map T_Span.enc p0)] low fun x low' => x = .tup [.agg [.int .i64 r.1.Low, .int .i64 r.1.High], .bool r.2] ∧ low' = low := by
  refine vcalls_of_body (nt := 44) (rs := [.cell 2 24, .tmp 3]) Try.func23 rfl rfl (Nat.le_of_ble_eq_true rfl) rfl ?_
  refine vwp_monoW (Q' := FnE (fun E' lw lc => Weak E' lw lc [(2, .ptr (low.length + 0) 0 0 0), (3, .bool r.2)] low [⟨24, 2, [.agg [.int .i64 r.1.Low, .int .i64 r.1.High]], 0⟩])) ?_ ?_
  · unfold F_ref06_Meet at hF
    refine vwp_seq ?_
    refine vwp_region ?_
    refine vops_efE (vef_allocN rfl rfl tz_24 rfl rfl (Nat.succ_pos _) rfl) rfl ?_
    refine vops_rd (rd_asB rfl) rfl ?_
    refine vops_nil ?_
    refine vwp_seq ?_
    refine vwp_seq ?_
    refine vwp_region ?_
    refine vops_rd (rd_mvV rfl) rfl ?_
    refine vops_rd (rd_to (rd_lenV rfl rfl te_42) (congrArg (fun n : Nat => PV.int .i64 (n : Int)) (List.length_map _))) rfl ?_
    refine vops_rd (rd_eql rfl rfl) rfl ?_
    refine vops_nil ?_
    refine vwp_cond rfl (fun c1 => ?_) (fun c1 => ?_)
    · have hF := bifT c1 hF
      refine vwp_seq ?_
      refine vwp_region ?_
      obtain ⟨x2, h3, hF⟩ := bnd hF
      refine vops_efE (vef_callP rfl Try.call18 (F_ref05_Nothing_ok h3 _)) rfl ?_
      refine vops_efE (vef_store (p := .agg [.int .i64 x2.Low, .int .i64 x2.High]) (e' := .agg [.int .i64 x2.Low, .int .i64 x2.High]) rfl (getO_N rfl rfl) rfl rfl ts_24 rfl (nt_ne rfl) rfl (Nat.le_of_ble_eq_true rfl) rfl (setO_N rfl rfl)) rfl ?_
      refine vops_rd (rd_asB rfl) rfl ?_
      refine vops_nil ?_
      refine vwp_ret ?_
      obtain rfl := Option.some.inj hF
      refine fnR ?_
      exact weak_sub ⟨rfl, rfl, trivial⟩
    · have hF := bifF c1 hF
      refine vwp_skip ?_
      refine vwp_seq ?_
      refine vwp_region ?_
      obtain ⟨x4, h5, hF⟩ := bnd hF
      refine vops_rd (rd_mvV rfl) rfl ?_
      refine vops_rd (rd_to (rd_ixV rfl rfl h5 te_42 ts_24) (v' := .vptr [.int .i64 x4.Low, .int .i64 x4.High] 0) rfl) rfl ?_
      refine vops_rd (rd_loadVN (ds := [.int .i64 x4.Low, .int .i64 x4.High]) rfl ta_24 ts_24 rfl rfl) rfl ?_
      refine vops_efE (vef_allocN rfl rfl tz_24 rfl rfl (Nat.succ_pos _) rfl) rfl ?_
      refine vops_efE (vef_store (p := .agg [.int .i64 x4.Low, .int .i64 x4.High]) (e' := .agg [.int .i64 x4.Low, .int .i64 x4.High]) rfl (getO_N rfl rfl) rfl rfl ts_24 rfl (nt_ne rfl) rfl (Nat.le_of_ble_eq_true rfl) rfl (setO_N rfl rfl)) rfl ?_
      refine vops_nil ?_
      refine vwp_seq ?_
      refine vwp_seq ?_
      refine vwp_region ?_
      refine vops_rd (rd_asI rfl) rfl ?_
      refine vops_nil ?_
      refine vwp_block ?_
      obtain ⟨o7, ho7, hF⟩ := bnd hF
      refine vwp_monoW (vwp_loopC (F_ref06_Meet_L1 p0) (fun s6 E' lw lc => Weak E' lw lc [(0, .vs 2 (List.map T_Span.enc p0)), (2, .ptr (low.length + 0) 0 0 0), (4, .ptr (low.length + 1) 0 0 0), (5, .int .i64 s6.1)] low [⟨24, 2, [.agg [.int .i64 0, .int .i64 0]], 0⟩, ⟨24, 2, [.agg [.int .i64 s6.2.Low, .int .i64 s6.2.High]], 0⟩]) (fun o7 => OnlyE (.exit 0) (fun E' lw lc => Weak E' lw lc [(2, .ptr (low.length + 0) 0 0 0), (4, .ptr (low.length + 1) 0 0 0)] low [⟨24, 2, [.agg [.int .i64 0, .int .i64 0]], 0⟩, ⟨24, 2, [.agg [.int .i64 o7.Low, .int .i64 o7.High]], 0⟩])) ho7 ?_ (by rintro _ _ _ _ ⟨h, _⟩ <;> cases h) ?_) ?_
      · exact weak_sub ⟨rfl, rfl, rfl, rfl, trivial⟩
      · rintro s6 os6 _ _ _ hF hw
        unfold F_ref06_Meet_L1 at hF
        refine vwp_weak hw ?_
        refine vwp_seq ?_
        refine vwp_seq ?_
        refine vwp_region ?_
        refine vops_rd (rd_mvI rfl) rfl ?_
        refine vops_rd (rd_mvV rfl) rfl ?_
        refine vops_rd (rd_to (rd_lenV rfl rfl te_42) (congrArg (fun n : Nat => PV.int .i64 (n : Int)) (List.length_map _))) rfl ?_
        refine vops_rd (rd_lss rfl rfl) rfl ?_
        refine vops_nil ?_
        refine vwp_cond rfl (fun c8 => ?_) (fun c8 => ?_)
        · have hF := bifT c8 hF
          refine vwp_skip ?_
          refine vwp_seq ?_
          refine vwp_block ?_
          obtain ⟨x9, h10, hF⟩ := bnd hF
          obtain ⟨x11, h12, hF⟩ := bnd hF
          refine vwp_drawn [[], [0], [], [], [2, 3], [2, 3, 4], [2, 3, 4, 5], [0, 1, 2, 3, 4, 5, 6], [], [8], [], [], [10, 11], [10, 11, 12], [10, 11, 12, 13], [8, 9, 10, 11, 12, 13, 14], [0, 1, 2, 3, 4, 5, 6, 7, 8, 9], [0, 1, 2, 3, 4, 5, 6, 7, 8, 9, 16], [0, 1, 2, 3, 4, 5, 6, 7, 8, 9, 10, 11, 12, 13, 14, 15, 16, 17], [0, 1, 2, 3, 4, 5, 6, 7, 8, 9, 10, 11, 12, 13, 14, 15, 16, 17, 18]] [false, false, false, false, false, false, false, false, false, false, false, false, false, false, false, false, false, true, false, true] [(low, [⟨24, 2, [.agg [.int .i64 0, .int .i64 0]], 0⟩, ⟨24, 2, [.agg [.int .i64 s6.2.Low, .int .i64 s6.2.High]], 0⟩]), (low, [⟨24, 2, [.agg [.int .i64 0, .int .i64 0]], 0⟩, ⟨24, 2, [.agg [.int .i64 (max s6.2.Low x9.Low), .int .i64 s6.2.High]], 0⟩]), (low, [⟨24, 2, [.agg [.int .i64 0, .int .i64 0]], 0⟩, ⟨24, 2, [.agg [.int .i64 (max s6.2.Low x9.Low), .int .i64 (min s6.2.High x11.High)]], 0⟩])] mixed (by kernel_rfl) rfl (lenAll (all1 rfl (all1 rfl (all1 rfl all0)))) rfl (low, [⟨24, 2, [.agg [.int .i64 0, .int .i64 0]], 0⟩, ⟨24, 2, [.agg [.int .i64 (max s6.2.Low x9.Low), .int .i64 (min s6.2.High x11.High)]], 0⟩]) rfl rfl ?_
          refine dops_rdW [(low, [⟨24, 2, [.agg [.int .i64 0, .int .i64 0]], 0⟩, ⟨24, 2, [.agg [.int .i64 s6.2.Low, .int .i64 s6.2.High]], 0⟩])] rfl rfl (all1 (VRd.ntl (rd_fieldAddr rfl tf_24_0 ts_3 (by decide))) all0) ?_
          refine dops_rdW [(low, [⟨24, 2, [.agg [.int .i64 0, .int .i64 0]], 0⟩, ⟨24, 2, [.agg [.int .i64 s6.2.Low, .int .i64 s6.2.High]], 0⟩])] rfl rfl (all1 (VRd.ntl (rd_load1 rfl (getO_N rfl rfl) rfl ta_3 rfl)) all0) ?_
          refine dops_rdW [(low, [⟨24, 2, [.agg [.int .i64 0, .int .i64 0]], 0⟩, ⟨24, 2, [.agg [.int .i64 s6.2.Low, .int .i64 s6.2.High]], 0⟩])] rfl rfl (all1 (VRd.ntl (rd_mvV rfl)) all0) ?_
          refine dops_rdW [(low, [⟨24, 2, [.agg [.int .i64 0, .int .i64 0]], 0⟩, ⟨24, 2, [.agg [.int .i64 s6.2.Low, .int .i64 s6.2.High]], 0⟩])] rfl rfl (all1 (VRd.ntl (rd_mvI rfl)) all0) ?_
          refine dops_rdW [(low, [⟨24, 2, [.agg [.int .i64 0, .int .i64 0]], 0⟩, ⟨24, 2, [.agg [.int .i64 s6.2.Low, .int .i64 s6.2.High]], 0⟩])] rfl rfl (all1 (VRd.ntl (rd_to (rd_ixV rfl rfl h10 te_42 ts_24) (v' := .vptr [.int .i64 x9.Low, .int .i64 x9.High] 0) rfl)) all0) ?_
          refine dops_rdW [(low, [⟨24, 2, [.agg [.int .i64 0, .int .i64 0]], 0⟩, ⟨24, 2, [.agg [.int .i64 s6.2.Low, .int .i64 s6.2.High]], 0⟩])] rfl rfl (all1 (VRd.ntl (rd_fieldVaddr rfl tf_24_0 ts_3 (by decide))) all0) ?_
          refine dops_rdW [(low, [⟨24, 2, [.agg [.int .i64 0, .int .i64 0]], 0⟩, ⟨24, 2, [.agg [.int .i64 s6.2.Low, .int .i64 s6.2.High]], 0⟩])] rfl rfl (all1 (VRd.ntl (rd_loadV1 rfl ta_3 rfl)) all0) ?_
          refine dops_rdW [(low, [⟨24, 2, [.agg [.int .i64 0, .int .i64 0]], 0⟩, ⟨24, 2, [.agg [.int .i64 s6.2.Low, .int .i64 s6.2.High]], 0⟩])] rfl rfl (all1 (VRd.ntl (rd_max rfl rfl)) all0) ?_
          refine dops_rdW [(low, [⟨24, 2, [.agg [.int .i64 0, .int .i64 0]], 0⟩, ⟨24, 2, [.agg [.int .i64 s6.2.Low, .int .i64 s6.2.High]], 0⟩])] rfl rfl (all1 (VRd.ntl (rd_fieldAddr rfl tf_24_1 ts_3 (by decide))) all0) ?_
          refine dops_rdW [(low, [⟨24, 2, [.agg [.int .i64 0, .int .i64 0]], 0⟩, ⟨24, 2, [.agg [.int .i64 s6.2.Low, .int .i64 s6.2.High]], 0⟩])] rfl rfl (all1 (VRd.ntl (rd_load1 rfl (getO_N rfl rfl) rfl ta_3 rfl)) all0) ?_
          refine dops_rdW [(low, [⟨24, 2, [.agg [.int .i64 0, .int .i64 0]], 0⟩, ⟨24, 2, [.agg [.int .i64 s6.2.Low, .int .i64 s6.2.High]], 0⟩]), (low, [⟨24, 2, [.agg [.int .i64 0, .int .i64 0]], 0⟩, ⟨24, 2, [.agg [.int .i64 (max s6.2.Low x9.Low), .int .i64 s6.2.High]], 0⟩])] rfl rfl (all1 (VRd.ntl (rd_mvV rfl)) (all1 (VRd.ntl (rd_mvV rfl)) all0)) ?_
          refine dops_rdW [(low, [⟨24, 2, [.agg [.int .i64 0, .int .i64 0]], 0⟩, ⟨24, 2, [.agg [.int .i64 s6.2.Low, .int .i64 s6.2.High]], 0⟩]), (low, [⟨24, 2, [.agg [.int .i64 0, .int .i64 0]], 0⟩, ⟨24, 2, [.agg [.int .i64 (max s6.2.Low x9.Low), .int .i64 s6.2.High]], 0⟩])] rfl rfl (all1 (VRd.ntl (rd_mvI rfl)) (all1 (VRd.ntl (rd_mvI rfl)) all0)) ?_
          refine dops_rdW [(low, [⟨24, 2, [.agg [.int .i64 0, .int .i64 0]], 0⟩, ⟨24, 2, [.agg [.int .i64 s6.2.Low, .int .i64 s6.2.High]], 0⟩]), (low, [⟨24, 2, [.agg [.int .i64 0, .int .i64 0]], 0⟩, ⟨24, 2, [.agg [.int .i64 (max s6.2.Low x9.Low), .int .i64 s6.2.High]], 0⟩])] rfl rfl (all1 (VRd.ntl (rd_to (rd_ixV rfl rfl h12 te_42 ts_24) (v' := .vptr [.int .i64 x11.Low, .int .i64 x11.High] 0) rfl)) (all1 (VRd.ntl (rd_to (rd_ixV rfl rfl h12 te_42 ts_24) (v' := .vptr [.int .i64 x11.Low, .int .i64 x11.High] 0) rfl)) all0)) ?_
          refine dops_rdW [(low, [⟨24, 2, [.agg [.int .i64 0, .int .i64 0]], 0⟩, ⟨24, 2, [.agg [.int .i64 s6.2.Low, .int .i64 s6.2.High]], 0⟩]), (low, [⟨24, 2, [.agg [.int .i64 0, .int .i64 0]], 0⟩, ⟨24, 2, [.agg [.int .i64 (max s6.2.Low x9.Low), .int .i64 s6.2.High]], 0⟩])] rfl rfl (all1 (VRd.ntl (rd_fieldVaddr rfl tf_24_1 ts_3 (by decide))) (all1 (VRd.ntl (rd_fieldVaddr rfl tf_24_1 ts_3 (by decide))) all0)) ?_
          refine dops_rdW [(low, [⟨24, 2, [.agg [.int .i64 0, .int .i64 0]], 0⟩, ⟨24, 2, [.agg [.int .i64 s6.2.Low, .int .i64 s6.2.High]], 0⟩]), (low, [⟨24, 2, [.agg [.int .i64 0, .int .i64 0]], 0⟩, ⟨24, 2, [.agg [.int .i64 (max s6.2.Low x9.Low), .int .i64 s6.2.High]], 0⟩])] rfl rfl (all1 (VRd.ntl (rd_loadV1 rfl ta_3 rfl)) (all1 (VRd.ntl (rd_loadV1 rfl ta_3 rfl)) all0)) ?_
          refine dops_rdW [(low, [⟨24, 2, [.agg [.int .i64 0, .int .i64 0]], 0⟩, ⟨24, 2, [.agg [.int .i64 s6.2.Low, .int .i64 s6.2.High]], 0⟩]), (low, [⟨24, 2, [.agg [.int .i64 0, .int .i64 0]], 0⟩, ⟨24, 2, [.agg [.int .i64 (max s6.2.Low x9.Low), .int .i64 s6.2.High]], 0⟩])] rfl rfl (all1 (VRd.ntl (rd_min rfl rfl)) (all1 (VRd.ntl (rd_min rfl rfl)) all0)) ?_
          refine dops_rdW [(low, [⟨24, 2, [.agg [.int .i64 0, .int .i64 0]], 0⟩, ⟨24, 2, [.agg [.int .i64 s6.2.Low, .int .i64 s6.2.High]], 0⟩])] rfl rfl (all1 (VRd.ntl (rd_fieldAddr rfl tf_24_0 ts_3 (by decide))) all0) ?_
          refine dops_ef (M := (low, [⟨24, 2, [.agg [.int .i64 0, .int .i64 0]], 0⟩, ⟨24, 2, [.agg [.int .i64 s6.2.Low, .int .i64 s6.2.High]], 0⟩])) (M' := (low, [⟨24, 2, [.agg [.int .i64 0, .int .i64 0]], 0⟩, ⟨24, 2, [.agg [.int .i64 (max s6.2.Low x9.Low), .int .i64 s6.2.High]], 0⟩])) rfl rfl rfl (vef_store (p := .int .i64 (max s6.2.Low x9.Low)) (e' := .agg [.int .i64 (max s6.2.Low x9.Low), .int .i64 s6.2.High]) rfl (getO_N rfl rfl) rfl rfl ts_3 rfl (nt_ne rfl) rfl (Nat.le_of_ble_eq_true rfl) rfl (setO_N rfl rfl)) ?_
          refine dops_rdW [(low, [⟨24, 2, [.agg [.int .i64 0, .int .i64 0]], 0⟩, ⟨24, 2, [.agg [.int .i64 (max s6.2.Low x9.Low), .int .i64 s6.2.High]], 0⟩])] rfl rfl (all1 (VRd.ntl (rd_fieldAddr rfl tf_24_1 ts_3 (by decide))) all0) ?_
          refine dops_ef (M := (low, [⟨24, 2, [.agg [.int .i64 0, .int .i64 0]], 0⟩, ⟨24, 2, [.agg [.int .i64 (max s6.2.Low x9.Low), .int .i64 s6.2.High]], 0⟩])) (M' := (low, [⟨24, 2, [.agg [.int .i64 0, .int .i64 0]], 0⟩, ⟨24, 2, [.agg [.int .i64 (max s6.2.Low x9.Low), .int .i64 (min s6.2.High x11.High)]], 0⟩])) rfl rfl rfl (vef_store (p := .int .i64 (min s6.2.High x11.High)) (e' := .agg [.int .i64 (max s6.2.Low x9.Low), .int .i64 (min s6.2.High x11.High)]) rfl (getO_N rfl rfl) rfl rfl ts_3 rfl (nt_ne rfl) rfl (Nat.le_of_ble_eq_true rfl) rfl (setO_N rfl rfl)) ?_
          refine dops_nil ?_
          refine vwp_region ?_
          refine vops_rd (rd_mvI rfl) rfl ?_
          refine vops_rd (rd_add rfl rfl rfl) rfl ?_
          refine vops_rd (rd_asI rfl) rfl ?_
          refine vops_nil ?_
          obtain rfl := Option.some.inj hF
          refine onlyE ?_
          exact weak_sub ⟨rfl, rfl, rfl, rfl, trivial⟩
        · have hF := bifF c8 hF
          refine vwp_exit ?_
          obtain rfl := Option.some.inj hF
          refine onlyE ?_
          exact weak_sub ⟨rfl, rfl, trivial⟩
      · rintro _ _ _ _ ⟨rfl, hw⟩
        refine ⟨_, _, _, hw, ?_⟩
        refine vwp_seq ?_
        refine vwp_seq ?_
        refine vwp_region ?_
        refine vops_rd (rd_fieldAddr rfl tf_24_0 ts_3 (by decide)) rfl ?_
        refine vops_rd (rd_load1 rfl (getO_N rfl rfl) rfl ta_3 rfl) rfl ?_
        refine vops_rd (rd_fieldAddr rfl tf_24_1 ts_3 (by decide)) rfl ?_
        refine vops_rd (rd_load1 rfl (getO_N rfl rfl) rfl ta_3 rfl) rfl ?_
        refine vops_rd (rd_gtr rfl rfl) rfl ?_
        refine vops_nil ?_
        refine vwp_cond rfl (fun c13 => ?_) (fun c13 => ?_)
        · have hF := bifT c13 hF
          refine vwp_seq ?_
          refine vwp_region ?_
          obtain ⟨x14, h15, hF⟩ := bnd hF
          refine vops_efE (vef_callP rfl Try.call18 (F_ref05_Nothing_ok h15 _)) rfl ?_
          refine vops_efE (vef_store (p := .agg [.int .i64 x14.Low, .int .i64 x14.High]) (e' := .agg [.int .i64 x14.Low, .int .i64 x14.High]) rfl (getO_N rfl rfl) rfl rfl ts_24 rfl (nt_ne rfl) rfl (Nat.le_of_ble_eq_true rfl) rfl (setO_N rfl rfl)) rfl ?_
          refine vops_rd (rd_asB rfl) rfl ?_
          refine vops_nil ?_
          refine vwp_ret ?_
          obtain rfl := Option.some.inj hF
          refine fnR ?_
          exact weak_pick rfl [(0, 0)] (by decide) ⟨rn_ptr 0 0 rfl rfl, rn_low rfl (.bool _), trivial⟩ ⟨⟨_, rfl, rfl, .same _ _ _ _ (ltObj_es ⟨(lt_agg ⟨.int _ _, .int _ _, trivial⟩), trivial⟩)⟩, trivial⟩
        · have hF := bifF c13 hF
          refine vwp_skip ?_
          refine vwp_seq ?_
          refine vwp_region ?_
          refine vops_rd (rd_loadN (ds := [.int .i64 o7.Low, .int .i64 o7.High]) rfl (getO_N rfl rfl) rfl ta_24 ts_24 rfl rfl rfl) rfl ?_
          refine vops_efE (vef_store (p := .agg [.int .i64 o7.Low, .int .i64 o7.High]) (e' := .agg [.int .i64 o7.Low, .int .i64 o7.High]) rfl (getO_N rfl rfl) rfl rfl ts_24 rfl (nt_ne rfl) rfl (Nat.le_of_ble_eq_true rfl) rfl (setO_N rfl rfl)) rfl ?_
          refine vops_rd (rd_asB rfl) rfl ?_
          refine vops_nil ?_
          refine vwp_ret ?_
          obtain rfl := Option.some.inj hF
          refine fnR ?_
          exact weak_pick rfl [(0, 0)] (by decide) ⟨rn_ptr 0 0 rfl rfl, rn_low rfl (.bool _), trivial⟩ ⟨⟨_, rfl, rfl, .same _ _ _ _ (ltObj_es ⟨(lt_agg ⟨.int _ _, .int _ _, trivial⟩), trivial⟩)⟩, trivial⟩
  · rintro _ _ _ _ ⟨he, hw⟩
    refine ⟨_, _, _, hw, ?_⟩
    exact bodyQ_pure he [.agg [.int .i64 r.1.Low, .int .i64 r.1.High], .bool r.2] ⟨rd_loadN rfl (getO_N rfl rfl) rfl ta_24 ts_24 rfl rfl rfl, rfl, trivial⟩ ((lt_tup ⟨(lt_agg ⟨.int _ _, .int _ _, trivial⟩), .bool _, trivial⟩)) ⟨rfl, rfl⟩

theorem F_window_Hull_ok {p0 : List T_Span} {r : T_Span} (hF : F_window_Hull p0 = some r) (low : List AObj) :
    VCalls Try.prog 24 [.vs 2 (List.map T_Span.enc p0)] low fun x low' => x = .agg [.int .i64 r.Low, .int .i64 r.High] ∧ low' = low := by
  refine vcalls_of_body (nt := 38) (rs := [.cell 2 24]) Try.func24 rfl rfl (Nat.le_of_ble_eq_true rfl) rfl ?_
  refine vwp_monoW (Q' := FnE (fun E' lw lc => Weak E' lw lc [(2, .ptr (low.length + 0) 0 0 0)] low [⟨24, 2, [.agg [.int .i64 r.Low, .int .i64 r.High]], 0⟩])) ?_ ?_
  · unfold F_window_Hull at hF
    refine vwp_seq ?_
    refine vwp_region ?_
    refine vops_efE (vef_allocN rfl rfl tz_24 rfl rfl (Nat.succ_pos _) rfl) rfl ?_
    refine vops_nil ?_
    refine vwp_seq ?_
    refine vwp_region ?_
    obtain ⟨x1, h2, hF⟩ := bnd hF
    refine vops_efE (vef_callP rfl Try.call30 (F_sensor_Nothing_ok h2 _)) rfl ?_
    refine vops_efE (vef_allocN rfl rfl tz_24 rfl rfl (Nat.succ_pos _) rfl) rfl ?_
    refine vops_efE (vef_store (p := .agg [.int .i64 x1.Low, .int .i64 x1.High]) (e' := .agg [.int .i64 x1.Low, .int .i64 x1.High]) rfl (getO_N rfl rfl) rfl rfl ts_24 rfl (nt_ne rfl) rfl (Nat.le_of_ble_eq_true rfl) rfl (setO_N rfl rfl)) rfl ?_
    refine vops_rd (rd_asB rfl) rfl ?_
    refine vops_nil ?_
    refine vwp_seq ?_
    refine vwp_seq ?_
    refine vwp_region ?_
    refine vops_rd (rd_mvV rfl) rfl ?_
    refine vops_rd (rd_to (rd_lenV rfl rfl te_42) (congrArg (fun n : Nat => PV.int .i64 (n : Int)) (List.length_map _))) rfl ?_
    refine vops_rd (rd_mvI rfl) rfl ?_
    refine vops_nil ?_
    refine vwp_block ?_
    obtain ⟨o4, ho4, hF⟩ := bnd hF
    refine vwp_monoW (vwp_loopC (F_window_Hull_L1 p0) (fun s3 E' lw lc => Weak E' lw lc [(2, .ptr (low.length + 0) 0 0 0), (3, .ptr (low.length + 1) 0 0 0), (4, .bool s3.1), (8, .vs 2 (List.map T_Span.enc p0)), (9, .int .i64 ((p0).length : Int)), (10, .int .i64 s3.2.1)] low [⟨24, 2, [.agg [.int .i64 0, .int .i64 0]], 0⟩, ⟨24, 2, [.agg [.int .i64 s3.2.2.Low, .int .i64 s3.2.2.High]], 0⟩]) (fun o4 => OnlyE (.exit 0) (fun E' lw lc => Weak E' lw lc [(2, .ptr (low.length + 0) 0 0 0), (3, .ptr (low.length + 1) 0 0 0)] low [⟨24, 2, [.agg [.int .i64 0, .int .i64 0]], 0⟩, ⟨24, 2, [.agg [.int .i64 o4.Low, .int .i64 o4.High]], 0⟩])) ho4 ?_ (by rintro _ _ _ _ ⟨h, _⟩ <;> cases h) ?_) ?_
    · exact weak_sub ⟨rfl, rfl, rfl, rfl, rfl, rfl, trivial⟩
    · rintro s3 os3 _ _ _ hF hw
      unfold F_window_Hull_L1 at hF
      refine vwp_weak hw ?_
      refine vwp_seq ?_
      refine vwp_region ?_
      refine vops_rd (rd_lss rfl rfl) rfl ?_
      refine vops_nil ?_
      refine vwp_seq ?_
      refine vwp_cond rfl (fun c5 => ?_) (fun c5 => ?_)
      · have hF := bifT c5 hF
        refine vwp_skip ?_
        refine vwp_seq ?_
        obtain ⟨o6, ho6, hF⟩ := bnd hF
        refine vwp_monoW (Q' := (fun o6 => OnlyE .normal (fun E' lw lc => Weak E' lw lc [(2, .ptr (low.length + 0) 0 0 0), (3, .ptr (low.length + 1) 0 0 0), (4, .bool o6.1), (8, .vs 2 (List.map T_Span.enc p0)), (9, .int .i64 ((p0).length : Int)), (10, .int .i64 s3.2.1)] low [⟨24, 2, [.agg [.int .i64 0, .int .i64 0]], 0⟩, ⟨24, 2, [.agg [.int .i64 o6.2.Low, .int .i64 o6.2.High]], 0⟩])) o6) ?_ ?_
        · replace hF := ho6
          refine vwp_block ?_
          refine vwp_seq ?_
          refine vwp_region ?_
          obtain ⟨x7, h8, hF⟩ := bnd hF
          refine vops_rd (rd_to (rd_ixV rfl rfl h8 te_42 ts_24) (v' := .vptr [.int .i64 x7.Low, .int .i64 x7.High] 0) rfl) rfl ?_
          refine vops_rd (rd_loadVN (ds := [.int .i64 x7.Low, .int .i64 x7.High]) rfl ta_24 ts_24 rfl rfl) rfl ?_
          refine vops_efE (vef_allocN rfl rfl tz_24 rfl rfl (Nat.succ_pos _) rfl) rfl ?_
          refine vops_efE (vef_store (p := .agg [.int .i64 x7.Low, .int .i64 x7.High]) (e' := .agg [.int .i64 x7.Low, .int .i64 x7.High]) rfl (getO_N rfl rfl) rfl rfl ts_24 rfl (nt_ne rfl) rfl (Nat.le_of_ble_eq_true rfl) rfl (setO_N rfl rfl)) rfl ?_
          refine vops_nil ?_
          refine vwp_block ?_
          refine vwp_seq ?_
          refine vwp_region ?_
          refine vops_rd (rd_fieldAddr rfl tf_24_0 ts_3 (by decide)) rfl ?_
          refine vops_rd (rd_load1 rfl (getO_N rfl rfl) rfl ta_3 rfl) rfl ?_
          refine vops_rd (rd_fieldAddr rfl tf_24_1 ts_3 (by decide)) rfl ?_
          refine vops_rd (rd_load1 rfl (getO_N rfl rfl) rfl ta_3 rfl) rfl ?_
          refine vops_rd (rd_gtr rfl rfl) rfl ?_
          refine vops_rd (rd_asB rfl) rfl ?_
          refine vops_nil ?_
          refine vwp_cond rfl (fun c9 => ?_) (fun c9 => ?_)
          · have hF := bifT c9 hF
            refine vwp_skip ?_
            obtain rfl := Option.some.inj hF
            refine onlyE ?_
            exact weak_pick rfl [(0, 0), (1, 0)] (by decide) ⟨rn_ptr 0 0 rfl rfl, rn_ptr 1 1 rfl rfl, rn_low rfl (.bool _), rn_low rfl (.vs _ _), rn_low rfl (.int _ _), rn_low rfl (.int _ _), trivial⟩ ⟨⟨_, rfl, rfl, .same _ _ _ _ (ltObj_es ⟨(lt_agg ⟨.int _ _, .int _ _, trivial⟩), trivial⟩)⟩, ⟨_, rfl, rfl, .same _ _ _ _ (ltObj_es ⟨(lt_agg ⟨.int _ _, .int _ _, trivial⟩), trivial⟩)⟩, trivial⟩
          · have hF := bifF c9 hF
            refine vwp_seq ?_
            refine vwp_region ?_
            refine vops_rd (rd_mvB rfl) rfl ?_
            refine vops_rd (rd_not rfl) rfl ?_
            refine vops_rd (rd_asB rfl) rfl ?_
            refine vops_nil ?_
            refine vwp_cond rfl (fun c10 => ?_) (fun c10 => ?_)
            · have hF := bifT c10 hF
              refine vwp_region ?_
              refine vops_rd (rd_loadN (ds := [.int .i64 x7.Low, .int .i64 x7.High]) rfl (getO_N rfl rfl) rfl ta_24 ts_24 rfl rfl rfl) rfl ?_
              refine vops_efE (vef_store (p := .agg [.int .i64 x7.Low, .int .i64 x7.High]) (e' := .agg [.int .i64 x7.Low, .int .i64 x7.High]) rfl (getO_N rfl rfl) rfl rfl ts_24 rfl (nt_ne rfl) rfl (Nat.le_of_ble_eq_true rfl) rfl (setO_N rfl rfl)) rfl ?_
              refine vops_rd (rd_asB rfl) rfl ?_
              refine vops_nil ?_
              obtain rfl := Option.some.inj hF
              refine onlyE ?_
              exact weak_pick rfl [(0, 0), (1, 0)] (by decide) ⟨rn_ptr 0 0 rfl rfl, rn_ptr 1 1 rfl rfl, rn_low rfl (.bool _), rn_low rfl (.vs _ _), rn_low rfl (.int _ _), rn_low rfl (.int _ _), trivial⟩ ⟨⟨_, rfl, rfl, .same _ _ _ _ (ltObj_es ⟨(lt_agg ⟨.int _ _, .int _ _, trivial⟩), trivial⟩)⟩, ⟨_, rfl, rfl, .same _ _ _ _ (ltObj_es ⟨(lt_agg ⟨.int _ _, .int _ _, trivial⟩), trivial⟩)⟩, trivial⟩
            · have hF := bifF c10 hF
              refine vwp_drawn [[], [0], [], [2], [0, 1, 2, 3], [], [5], [], [7], [5, 6, 7, 8], [0, 1, 2, 3, 4, 5, 6], [0, 1, 2, 3, 4, 5, 6, 10], [0, 1, 2, 3, 4, 5, 6, 7, 8, 9, 10, 11], [0, 1, 2, 3, 4, 5, 6, 7, 8, 9, 10, 11, 12]] [false, false, false, false, false, false, false, false, false, false, false, true, false, true] [(low, [⟨24, 2, [.agg [.int .i64 0, .int .i64 0]], 0⟩, ⟨24, 2, [.agg [.int .i64 s3.2.2.Low, .int .i64 s3.2.2.High]], 0⟩, ⟨24, 2, [.agg [.int .i64 x7.Low, .int .i64 x7.High]], 0⟩]), (low, [⟨24, 2, [.agg [.int .i64 0, .int .i64 0]], 0⟩, ⟨24, 2, [.agg [.int .i64 (min s3.2.2.Low x7.Low), .int .i64 s3.2.2.High]], 0⟩, ⟨24, 2, [.agg [.int .i64 x7.Low, .int .i64 x7.High]], 0⟩]), (low, [⟨24, 2, [.agg [.int .i64 0, .int .i64 0]], 0⟩, ⟨24, 2, [.agg [.int .i64 (min s3.2.2.Low x7.Low), .int .i64 (max s3.2.2.High x7.High)]], 0⟩, ⟨24, 2, [.agg [.int .i64 x7.Low, .int .i64 x7.High]], 0⟩])] mixed (by kernel_rfl) rfl (lenAll (all1 rfl (all1 rfl (all1 rfl all0)))) rfl (low, [⟨24, 2, [.agg [.int .i64 0, .int .i64 0]], 0⟩, ⟨24, 2, [.agg [.int .i64 (min s3.2.2.Low x7.Low), .int .i64 (max s3.2.2.High x7.High)]], 0⟩, ⟨24, 2, [.agg [.int .i64 x7.Low, .int .i64 x7.High]], 0⟩]) rfl rfl ?_
              refine dops_rdW [(low, [⟨24, 2, [.agg [.int .i64 0, .int .i64 0]], 0⟩, ⟨24, 2, [.agg [.int .i64 s3.2.2.Low, .int .i64 s3.2.2.High]], 0⟩, ⟨24, 2, [.agg [.int .i64 x7.Low, .int .i64 x7.High]], 0⟩])] rfl rfl (all1 (VRd.ntl (rd_fieldAddr rfl tf_24_0 ts_3 (by decide))) all0) ?_
              refine dops_rdW [(low, [⟨24, 2, [.agg [.int .i64 0, .int .i64 0]], 0⟩, ⟨24, 2, [.agg [.int .i64 s3.2.2.Low, .int .i64 s3.2.2.High]], 0⟩, ⟨24, 2, [.agg [.int .i64 x7.Low, .int .i64 x7.High]], 0⟩])] rfl rfl (all1 (VRd.ntl (rd_load1 rfl (getO_N rfl rfl) rfl ta_3 rfl)) all0) ?_
              refine dops_rdW [(low, [⟨24, 2, [.agg [.int .i64 0, .int .i64 0]], 0⟩, ⟨24, 2, [.agg [.int .i64 s3.2.2.Low, .int .i64 s3.2.2.High]], 0⟩, ⟨24, 2, [.agg [.int .i64 x7.Low, .int .i64 x7.High]], 0⟩])] rfl rfl (all1 (VRd.ntl (rd_fieldAddr rfl tf_24_0 ts_3 (by decide))) all0) ?_
              refine dops_rdW [(low, [⟨24, 2, [.agg [.int .i64 0, .int .i64 0]], 0⟩, ⟨24, 2, [.agg [.int .i64 s3.2.2.Low, .int .i64 s3.2.2.High]], 0⟩, ⟨24, 2, [.agg [.int .i64 x7.Low, .int .i64 x7.High]], 0⟩])] rfl rfl (all1 (VRd.ntl (rd_load1 rfl (getO_N rfl rfl) rfl ta_3 rfl)) all0) ?_
              refine dops_rdW [(low, [⟨24, 2, [.agg [.int .i64 0, .int .i64 0]], 0⟩, ⟨24, 2, [.agg [.int .i64 s3.2.2.Low, .int .i64 s3.2.2.High]], 0⟩, ⟨24, 2, [.agg [.int .i64 x7.Low, .int .i64 x7.High]], 0⟩])] rfl rfl (all1 (VRd.ntl (rd_min rfl rfl)) all0) ?_
              refine dops_rdW [(low, [⟨24, 2, [.agg [.int .i64 0, .int .i64 0]], 0⟩, ⟨24, 2, [.agg [.int .i64 s3.2.2.Low, .int .i64 s3.2.2.High]], 0⟩, ⟨24, 2, [.agg [.int .i64 x7.Low, .int .i64 x7.High]], 0⟩])] rfl rfl (all1 (VRd.ntl (rd_fieldAddr rfl tf_24_1 ts_3 (by decide))) all0) ?_
              refine dops_rdW [(low, [⟨24, 2, [.agg [.int .i64 0, .int .i64 0]], 0⟩, ⟨24, 2, [.agg [.int .i64 s3.2.2.Low, .int .i64 s3.2.2.High]], 0⟩, ⟨24, 2, [.agg [.int .i64 x7.Low, .int .i64 x7.High]], 0⟩])] rfl rfl (all1 (VRd.ntl (rd_load1 rfl (getO_N rfl rfl) rfl ta_3 rfl)) all0) ?_
              refine dops_rdW [(low, [⟨24, 2, [.agg [.int .i64 0, .int .i64 0]], 0⟩, ⟨24, 2, [.agg [.int .i64 s3.2.2.Low, .int .i64 s3.2.2.High]], 0⟩, ⟨24, 2, [.agg [.int .i64 x7.Low, .int .i64 x7.High]], 0⟩]), (low, [⟨24, 2, [.agg [.int .i64 0, .int .i64 0]], 0⟩, ⟨24, 2, [.agg [.int .i64 (min s3.2.2.Low x7.Low), .int .i64 s3.2.2.High]], 0⟩, ⟨24, 2, [.agg [.int .i64 x7.Low, .int .i64 x7.High]], 0⟩])] rfl rfl (all1 (VRd.ntl (rd_fieldAddr rfl tf_24_1 ts_3 (by decide))) (all1 (VRd.ntl (rd_fieldAddr rfl tf_24_1 ts_3 (by decide))) all0)) ?_
              refine dops_rdW [(low, [⟨24, 2, [.agg [.int .i64 0, .int .i64 0]], 0⟩, ⟨24, 2, [.agg [.int .i64 s3.2.2.Low, .int .i64 s3.2.2.High]], 0⟩, ⟨24, 2, [.agg [.int .i64 x7.Low, .int .i64 x7.High]], 0⟩]), (low, [⟨24, 2, [.agg [.int .i64 0, .int .i64 0]], 0⟩, ⟨24, 2, [.agg [.int .i64 (min s3.2.2.Low x7.Low), .int .i64 s3.2.2.High]], 0⟩, ⟨24, 2, [.agg [.int .i64 x7.Low, .int .i64 x7.High]], 0⟩])] rfl rfl (all1 (VRd.ntl (rd_load1 rfl (getO_N rfl rfl) rfl ta_3 rfl)) (all1 (VRd.ntl (rd_load1 rfl (getO_N rfl rfl) rfl ta_3 rfl)) all0)) ?_
              refine dops_rdW [(low, [⟨24, 2, [.agg [.int .i64 0, .int .i64 0]], 0⟩, ⟨24, 2, [.agg [.int .i64 s3.2.2.Low, .int .i64 s3.2.2.High]], 0⟩, ⟨24, 2, [.agg [.int .i64 x7.Low, .int .i64 x7.High]], 0⟩]), (low, [⟨24, 2, [.agg [.int .i64 0, .int .i64 0]], 0⟩, ⟨24, 2, [.agg [.int .i64 (min s3.2.2.Low x7.Low), .int .i64 s3.2.2.High]], 0⟩, ⟨24, 2, [.agg [.int .i64 x7.Low, .int .i64 x7.High]], 0⟩])] rfl rfl (all1 (VRd.ntl (rd_max rfl rfl)) (all1 (VRd.ntl (rd_max rfl rfl)) all0)) ?_
              refine dops_rdW [(low, [⟨24, 2, [.agg [.int .i64 0, .int .i64 0]], 0⟩, ⟨24, 2, [.agg [.int .i64 s3.2.2.Low, .int .i64 s3.2.2.High]], 0⟩, ⟨24, 2, [.agg [.int .i64 x7.Low, .int .i64 x7.High]], 0⟩])] rfl rfl (all1 (VRd.ntl (rd_fieldAddr rfl tf_24_0 ts_3 (by decide))) all0) ?_
              refine dops_ef (M := (low, [⟨24, 2, [.agg [.int .i64 0, .int .i64 0]], 0⟩, ⟨24, 2, [.agg [.int .i64 s3.2.2.Low, .int .i64 s3.2.2.High]], 0⟩, ⟨24, 2, [.agg [.int .i64 x7.Low, .int .i64 x7.High]], 0⟩])) (M' := (low, [⟨24, 2, [.agg [.int .i64 0, .int .i64 0]], 0⟩, ⟨24, 2, [.agg [.int .i64 (min s3.2.2.Low x7.Low), .int .i64 s3.2.2.High]], 0⟩, ⟨24, 2, [.agg [.int .i64 x7.Low, .int .i64 x7.High]], 0⟩])) rfl rfl rfl (vef_store (p := .int .i64 (min s3.2.2.Low x7.Low)) (e' := .agg [.int .i64 (min s3.2.2.Low x7.Low), .int .i64 s3.2.2.High]) rfl (getO_N rfl rfl) rfl rfl ts_3 rfl (nt_ne rfl) rfl (Nat.le_of_ble_eq_true rfl) rfl (setO_N rfl rfl)) ?_
              refine dops_rdW [(low, [⟨24, 2, [.agg [.int .i64 0, .int .i64 0]], 0⟩, ⟨24, 2, [.agg [.int .i64 (min s3.2.2.Low x7.Low), .int .i64 s3.2.2.High]], 0⟩, ⟨24, 2, [.agg [.int .i64 x7.Low, .int .i64 x7.High]], 0⟩])] rfl rfl (all1 (VRd.ntl (rd_fieldAddr rfl tf_24_1 ts_3 (by decide))) all0) ?_
              refine dops_ef (M := (low, [⟨24, 2, [.agg [.int .i64 0, .int .i64 0]], 0⟩, ⟨24, 2, [.agg [.int .i64 (min s3.2.2.Low x7.Low), .int .i64 s3.2.2.High]], 0⟩, ⟨24, 2, [.agg [.int .i64 x7.Low, .int .i64 x7.High]], 0⟩])) (M' := (low, [⟨24, 2, [.agg [.int .i64 0, .int .i64 0]], 0⟩, ⟨24, 2, [.agg [.int .i64 (min s3.2.2.Low x7.Low), .int .i64 (max s3.2.2.High x7.High)]], 0⟩, ⟨24, 2, [.agg [.int .i64 x7.Low, .int .i64 x7.High]], 0⟩])) rfl rfl rfl (vef_store (p := .int .i64 (max s3.2.2.High x7.High)) (e' := .agg [.int .i64 (min s3.2.2.Low x7.Low), .int .i64 (max s3.2.2.High x7.High)]) rfl (getO_N rfl rfl) rfl rfl ts_3 rfl (nt_ne rfl) rfl (Nat.le_of_ble_eq_true rfl) rfl (setO_N rfl rfl)) ?_
              refine dops_nil ?_
              obtain rfl := Option.some.inj hF
              refine onlyE ?_
              exact weak_pick rfl [(0, 0), (1, 0)] (by decide) ⟨rn_ptr 0 0 rfl rfl, rn_ptr 1 1 rfl rfl, rn_low rfl (.bool _), rn_low rfl (.vs _ _), rn_low rfl (.int _ _), rn_low rfl (.int _ _), trivial⟩ ⟨⟨_, rfl, rfl, .same _ _ _ _ (ltObj_es ⟨(lt_agg ⟨.int _ _, .int _ _, trivial⟩), trivial⟩)⟩, ⟨_, rfl, rfl, .same _ _ _ _ (ltObj_es ⟨(lt_agg ⟨.int _ _, .int _ _, trivial⟩), trivial⟩)⟩, trivial⟩
        · rintro _ _ _ _ ⟨rfl, hw⟩
          refine ⟨_, _, _, hw, ?_⟩
          refine vwp_region ?_
          refine vops_rd (rd_add rfl rfl rfl) rfl ?_
          refine vops_rd (rd_mvI rfl) rfl ?_
          refine vops_nil ?_
          obtain rfl := Option.some.inj hF
          refine onlyE ?_
          exact weak_sub ⟨rfl, rfl, rfl, rfl, rfl, rfl, trivial⟩
      · have hF := bifF c5 hF
        refine vwp_exit ?_
        obtain rfl := Option.some.inj hF
        refine onlyE ?_
        exact weak_sub ⟨rfl, rfl, trivial⟩
    · rintro _ _ _ _ ⟨rfl, hw⟩
      refine ⟨_, _, _, hw, ?_⟩
      refine vwp_seq ?_
      refine vwp_region ?_
      refine vops_rd (rd_loadN (ds := [.int .i64 o4.Low, .int .i64 o4.High]) rfl (getO_N rfl rfl) rfl ta_24 ts_24 rfl rfl rfl) rfl ?_
      refine vops_efE (vef_store (p := .agg [.int .i64 o4.Low, .int .i64 o4.High]) (e' := .agg [.int .i64 o4.Low, .int .i64 o4.High]) rfl (getO_N rfl rfl) rfl rfl ts_24 rfl (nt_ne rfl) rfl (Nat.le_of_ble_eq_true rfl) rfl (setO_N rfl rfl)) rfl ?_
      refine vops_nil ?_
      refine vwp_ret ?_
      obtain rfl := Option.some.inj hF
      refine fnR ?_
      exact weak_pick rfl [(0, 0)] (by decide) ⟨rn_ptr 0 0 rfl rfl, trivial⟩ ⟨⟨_, rfl, rfl, .same _ _ _ _ (ltObj_es ⟨(lt_agg ⟨.int _ _, .int _ _, trivial⟩), trivial⟩)⟩, trivial⟩
  · rintro _ _ _ _ ⟨he, hw⟩
    refine ⟨_, _, _, hw, ?_⟩
    exact bodyQ_pure he [.agg [.int .i64 r.Low, .int .i64 r.High]] ⟨rd_loadN rfl (getO_N rfl rfl) rfl ta_24 ts_24 rfl rfl rfl, trivial⟩ ((lt_agg ⟨.int _ _, .int _ _, trivial⟩)) ⟨rfl, rfl⟩

theorem F_ref06_Hull_ok {p0 : List T_Span} {r : T_Span} (hF : F_ref06_Hull p0 = some r) (low : List AObj) :
    VCalls Try.prog 25 [.vs 2 (List.map T_Span.enc p0)] low fun x low' => x = .agg [.int .i64 r.Low, .int .i64 r.High] ∧ low' = low := by
  refine vcalls_of_body (nt := 49) (rs := [.cell 2 24]) Try.func25 rfl rfl (Nat.le_of_ble_eq_true rfl) rfl ?_
  refine vwp_monoW (Q' := FnE (fun E' lw lc => Weak E' lw lc [(2, .ptr (low.length + 0) 0 0 0)] low [⟨24, 2, [.agg [.int .i64 r.Low, .int .i64 r.High]], 0⟩])) ?_ ?_
  · unfold F_ref06_Hull at hF
    refine vwp_seq ?_
    refine vwp_region ?_
    refine vops_efE (vef_allocN rfl rfl tz_24 rfl rfl (Nat.succ_pos _) rfl) rfl ?_
    refine vops_nil ?_
    refine vwp_seq ?_
    refine vwp_region ?_
    obtain ⟨x1, h2, hF⟩ := bnd hF
    refine vops_efE (vef_callP rfl Try.call18 (F_ref05_Nothing_ok h2 _)) rfl ?_
    refine vops_efE (vef_allocN rfl rfl tz_24 rfl rfl (Nat.succ_pos _) rfl) rfl ?_
    refine vops_efE (vef_store (p := .agg [.int .i64 x1.Low, .int .i64 x1.High]) (e' := .agg [.int .i64 x1.Low, .int .i64 x1.High]) rfl (getO_N rfl rfl) rfl rfl ts_24 rfl (nt_ne rfl) rfl (Nat.le_of_ble_eq_true rfl) rfl (setO_N rfl rfl)) rfl ?_
    refine vops_rd (rd_asB rfl) rfl ?_
    refine vops_nil ?_
    refine vwp_seq ?_
    refine vwp_seq ?_
    refine vwp_region ?_
    refine vops_rd (rd_asI rfl) rfl ?_
    refine vops_nil ?_
    refine vwp_block ?_
    obtain ⟨o4, ho4, hF⟩ := bnd hF
    refine vwp_monoW (vwp_loopC (F_ref06_Hull_L1 p0) (fun s3 E' lw lc => Weak E' lw lc [(0, .vs 2 (List.map T_Span.enc p0)), (2, .ptr (low.length + 0) 0 0 0), (3, .ptr (low.length + 1) 0 0 0), (4, .bool s3.1), (5, .int .i64 s3.2.1)] low [⟨24, 2, [.agg [.int .i64 0, .int .i64 0]], 0⟩, ⟨24, 2, [.agg [.int .i64 s3.2.2.Low, .int .i64 s3.2.2.High]], 0⟩]) (fun o4 => OnlyE (.exit 0) (fun E' lw lc => Weak E' lw lc [(2, .ptr (low.length + 0) 0 0 0), (3, .ptr (low.length + 1) 0 0 0)] low [⟨24, 2, [.agg [.int .i64 0, .int .i64 0]], 0⟩, ⟨24, 2, [.agg [.int .i64 o4.Low, .int .i64 o4.High]], 0⟩])) ho4 ?_ (by rintro _ _ _ _ ⟨h, _⟩ <;> cases h) ?_) ?_
    · exact weak_sub ⟨rfl, rfl, rfl, rfl, rfl, trivial⟩
    · rintro s3 os3 _ _ _ hF hw
      unfold F_ref06_Hull_L1 at hF
      refine vwp_weak hw ?_
      refine vwp_seq ?_
      refine vwp_seq ?_
      refine vwp_region ?_
      refine vops_rd (rd_mvI rfl) rfl ?_
      refine vops_rd (rd_mvV rfl) rfl ?_
      refine vops_rd (rd_to (rd_lenV rfl rfl te_42) (congrArg (fun n : Nat => PV.int .i64 (n : Int)) (List.length_map _))) rfl ?_
      refine vops_rd (rd_lss rfl rfl) rfl ?_
      refine vops_nil ?_
      refine vwp_cond rfl (fun c5 => ?_) (fun c5 => ?_)
      · have hF := bifT c5 hF
        refine vwp_skip ?_
        refine vwp_seq ?_
        obtain ⟨o6, ho6, hF⟩ := bnd hF
        refine vwp_monoW (Q' := (fun o6 => OnlyE .normal (fun E' lw lc => Weak E' lw lc [(0, .vs 2 (List.map T_Span.enc p0)), (2, .ptr (low.length + 0) 0 0 0), (3, .ptr (low.length + 1) 0 0 0), (4, .bool o6.1), (5, .int .i64 s3.2.1)] low [⟨24, 2, [.agg [.int .i64 0, .int .i64 0]], 0⟩, ⟨24, 2, [.agg [.int .i64 o6.2.Low, .int .i64 o6.2.High]], 0⟩])) o6) ?_ ?_
        · replace hF := ho6
          refine vwp_block ?_
          refine vwp_seq ?_
          refine vwp_seq ?_
          obtain ⟨x7, h8, hF⟩ := bnd hF
          obtain ⟨x9, h10, hF⟩ := bnd hF
          refine vwp_drawn [[], [], [0, 1], [0, 1, 2], [0, 1, 2, 3], [], [], [5, 6], [5, 6, 7], [5, 6, 7, 8], [0, 1, 2, 3, 4, 5, 6, 7, 8, 9]] [false, false, false, false, false, false, false, false, false, false, false] [(low, [⟨24, 2, [.agg [.int .i64 0, .int .i64 0]], 0⟩, ⟨24, 2, [.agg [.int .i64 s3.2.2.Low, .int .i64 s3.2.2.High]], 0⟩])] mixed (by kernel_rfl) rfl (lenAll (all1 rfl all0)) rfl (low, [⟨24, 2, [.agg [.int .i64 0, .int .i64 0]], 0⟩, ⟨24, 2, [.agg [.int .i64 s3.2.2.Low, .int .i64 s3.2.2.High]], 0⟩]) rfl rfl ?_
          refine dops_rdW [(low, [⟨24, 2, [.agg [.int .i64 0, .int .i64 0]], 0⟩, ⟨24, 2, [.agg [.int .i64 s3.2.2.Low, .int .i64 s3.2.2.High]], 0⟩])] rfl rfl (all1 (VRd.ntl (rd_mvV rfl)) all0) ?_
          refine dops_rdW [(low, [⟨24, 2, [.agg [.int .i64 0, .int .i64 0]], 0⟩, ⟨24, 2, [.agg [.int .i64 s3.2.2.Low, .int .i64 s3.2.2.High]], 0⟩])] rfl rfl (all1 (VRd.ntl (rd_mvI rfl)) all0) ?_
          refine dops_rdW [(low, [⟨24, 2, [.agg [.int .i64 0, .int .i64 0]], 0⟩, ⟨24, 2, [.agg [.int .i64 s3.2.2.Low, .int .i64 s3.2.2.High]], 0⟩])] rfl rfl (all1 (VRd.ntl (rd_to (rd_ixV rfl rfl h8 te_42 ts_24) (v' := .vptr [.int .i64 x7.Low, .int .i64 x7.High] 0) rfl)) all0) ?_
          refine dops_rdW [(low, [⟨24, 2, [.agg [.int .i64 0, .int .i64 0]], 0⟩, ⟨24, 2, [.agg [.int .i64 s3.2.2.Low, .int .i64 s3.2.2.High]], 0⟩])] rfl rfl (all1 (VRd.ntl (rd_fieldVaddr rfl tf_24_0 ts_3 (by decide))) all0) ?_
          refine dops_rdW [(low, [⟨24, 2, [.agg [.int .i64 0, .int .i64 0]], 0⟩, ⟨24, 2, [.agg [.int .i64 s3.2.2.Low, .int .i64 s3.2.2.High]], 0⟩])] rfl rfl (all1 (VRd.ntl (rd_loadV1 rfl ta_3 rfl)) all0) ?_
          refine dops_rdW [(low, [⟨24, 2, [.agg [.int .i64 0, .int .i64 0]], 0⟩, ⟨24, 2, [.agg [.int .i64 s3.2.2.Low, .int .i64 s3.2.2.High]], 0⟩])] rfl rfl (all1 (VRd.ntl (rd_mvV rfl)) all0) ?_
          refine dops_rdW [(low, [⟨24, 2, [.agg [.int .i64 0, .int .i64 0]], 0⟩, ⟨24, 2, [.agg [.int .i64 s3.2.2.Low, .int .i64 s3.2.2.High]], 0⟩])] rfl rfl (all1 (VRd.ntl (rd_mvI rfl)) all0) ?_
          refine dops_rdW [(low, [⟨24, 2, [.agg [.int .i64 0, .int .i64 0]], 0⟩, ⟨24, 2, [.agg [.int .i64 s3.2.2.Low, .int .i64 s3.2.2.High]], 0⟩])] rfl rfl (all1 (VRd.ntl (rd_to (rd_ixV rfl rfl h10 te_42 ts_24) (v' := .vptr [.int .i64 x9.Low, .int .i64 x9.High] 0) rfl)) all0) ?_
          refine dops_rdW [(low, [⟨24, 2, [.agg [.int .i64 0, .int .i64 0]], 0⟩, ⟨24, 2, [.agg [.int .i64 s3.2.2.Low, .int .i64 s3.2.2.High]], 0⟩])] rfl rfl (all1 (VRd.ntl (rd_fieldVaddr rfl tf_24_1 ts_3 (by decide))) all0) ?_
          refine dops_rdW [(low, [⟨24, 2, [.agg [.int .i64 0, .int .i64 0]], 0⟩, ⟨24, 2, [.agg [.int .i64 s3.2.2.Low, .int .i64 s3.2.2.High]], 0⟩])] rfl rfl (all1 (VRd.ntl (rd_loadV1 rfl ta_3 rfl)) all0) ?_
          refine dops_rdW [(low, [⟨24, 2, [.agg [.int .i64 0, .int .i64 0]], 0⟩, ⟨24, 2, [.agg [.int .i64 s3.2.2.Low, .int .i64 s3.2.2.High]], 0⟩])] rfl rfl (all1 (VRd.ntl (rd_gtr rfl rfl)) all0) ?_
          refine dops_nil ?_
          refine vwp_cond rfl (fun c11 => ?_) (fun c11 => ?_)
          · have hF := bifT c11 hF
            refine vwp_exit ?_
            obtain rfl := Option.some.inj hF
            refine onlyE ?_
            exact weak_sub ⟨rfl, rfl, rfl, rfl, rfl, trivial⟩
          · have hF := bifF c11 hF
            refine vwp_skip ?_
            refine vwp_seq ?_
            refine vwp_seq ?_
            refine vwp_region ?_
            refine vops_rd (rd_mvB rfl) rfl ?_
            refine vops_rd (rd_not rfl) rfl ?_
            refine vops_nil ?_
            obtain ⟨o12, ho12, hF⟩ := bnd hF
            refine vwp_monoW (Q' := (fun o12 => OnlyE .normal (fun E' lw lc => Weak E' lw lc [(0, .vs 2 (List.map T_Span.enc p0)), (2, .ptr (low.length + 0) 0 0 0), (3, .ptr (low.length + 1) 0 0 0), (4, .bool o12.1), (5, .int .i64 s3.2.1)] low [⟨24, 2, [.agg [.int .i64 0, .int .i64 0]], 0⟩, ⟨24, 2, [.agg [.int .i64 o12.2.Low, .int .i64 o12.2.High]], 0⟩])) o12) ?_ ?_
            · replace hF := ho12
              refine vwp_cond rfl (fun c13 => ?_) (fun c13 => ?_)
              · have hF := bifT c13 hF
                refine vwp_region ?_
                obtain ⟨x14, h15, hF⟩ := bnd hF
                refine vops_rd (rd_mvV rfl) rfl ?_
                refine vops_rd (rd_mvI rfl) rfl ?_
                refine vops_rd (rd_to (rd_ixV rfl rfl h15 te_42 ts_24) (v' := .vptr [.int .i64 x14.Low, .int .i64 x14.High] 0) rfl) rfl ?_
                refine vops_rd (rd_loadVN (ds := [.int .i64 x14.Low, .int .i64 x14.High]) rfl ta_24 ts_24 rfl rfl) rfl ?_
                refine vops_efE (vef_store (p := .agg [.int .i64 x14.Low, .int .i64 x14.High]) (e' := .agg [.int .i64 x14.Low, .int .i64 x14.High]) rfl (getO_N rfl rfl) rfl rfl ts_24 rfl (nt_ne rfl) rfl (Nat.le_of_ble_eq_true rfl) rfl (setO_N rfl rfl)) rfl ?_
                refine vops_rd (rd_asB rfl) rfl ?_
                refine vops_nil ?_
                obtain rfl := Option.some.inj hF
                refine onlyE ?_
                exact weak_sub ⟨rfl, rfl, rfl, rfl, rfl, trivial⟩
              · have hF := bifF c13 hF
                refine vwp_skip ?_
                obtain rfl := Option.some.inj hF
                refine onlyE ?_
                exact weak_sub ⟨rfl, rfl, rfl, rfl, rfl, trivial⟩
            · rintro _ _ _ _ ⟨rfl, hw⟩
              refine ⟨_, _, _, hw, ?_⟩
              obtain ⟨x16, h17, hF⟩ := bnd hF
              obtain ⟨x18, h19, hF⟩ := bnd hF
              refine vwp_drawn [[], [0], [], [], [2, 3], [2, 3, 4], [2, 3, 4, 5], [0, 1, 2, 3, 4, 5, 6], [], [8], [], [], [10, 11], [10, 11, 12], [10, 11, 12, 13], [8, 9, 10, 11, 12, 13, 14], [0, 1, 2, 3, 4, 5, 6, 7, 8, 9], [0, 1, 2, 3, 4, 5, 6, 7, 8, 9, 16], [0, 1, 2, 3, 4, 5, 6, 7, 8, 9, 10, 11, 12, 13, 14, 15, 16, 17], [0, 1, 2, 3, 4, 5, 6, 7, 8, 9, 10, 11, 12, 13, 14, 15, 16, 17, 18]] [false, false, false, false, false, false, false, false, false, false, false, false, false, false, false, false, false, true, false, true] [(low, [⟨24, 2, [.agg [.int .i64 0, .int .i64 0]], 0⟩, ⟨24, 2, [.agg [.int .i64 o12.2.Low, .int .i64 o12.2.High]], 0⟩]), (low, [⟨24, 2, [.agg [.int .i64 0, .int .i64 0]], 0⟩, ⟨24, 2, [.agg [.int .i64 (min o12.2.Low x16.Low), .int .i64 o12.2.High]], 0⟩]), (low, [⟨24, 2, [.agg [.int .i64 0, .int .i64 0]], 0⟩, ⟨24, 2, [.agg [.int .i64 (min o12.2.Low x16.Low), .int .i64 (max o12.2.High x18.High)]], 0⟩])] mixed (by kernel_rfl) rfl (lenAll (all1 rfl (all1 rfl (all1 rfl all0)))) rfl (low, [⟨24, 2, [.agg [.int .i64 0, .int .i64 0]], 0⟩, ⟨24, 2, [.agg [.int .i64 (min o12.2.Low x16.Low), .int .i64 (max o12.2.High x18.High)]], 0⟩]) rfl rfl ?_
              refine dops_rdW [(low, [⟨24, 2, [.agg [.int .i64 0, .int .i64 0]], 0⟩, ⟨24, 2, [.agg [.int .i64 o12.2.Low, .int .i64 o12.2.High]], 0⟩])] rfl rfl (all1 (VRd.ntl (rd_fieldAddr rfl tf_24_0 ts_3 (by decide))) all0) ?_
              refine dops_rdW [(low, [⟨24, 2, [.agg [.int .i64 0, .int .i64 0]], 0⟩, ⟨24, 2, [.agg [.int .i64 o12.2.Low, .int .i64 o12.2.High]], 0⟩])] rfl rfl (all1 (VRd.ntl (rd_load1 rfl (getO_N rfl rfl) rfl ta_3 rfl)) all0) ?_
              refine dops_rdW [(low, [⟨24, 2, [.agg [.int .i64 0, .int .i64 0]], 0⟩, ⟨24, 2, [.agg [.int .i64 o12.2.Low, .int .i64 o12.2.High]], 0⟩])] rfl rfl (all1 (VRd.ntl (rd_mvV rfl)) all0) ?_
              refine dops_rdW [(low, [⟨24, 2, [.agg [.int .i64 0, .int .i64 0]], 0⟩, ⟨24, 2, [.agg [.int .i64 o12.2.Low, .int .i64 o12.2.High]], 0⟩])] rfl rfl (all1 (VRd.ntl (rd_mvI rfl)) all0) ?_
              refine dops_rdW [(low, [⟨24, 2, [.agg [.int .i64 0, .int .i64 0]], 0⟩, ⟨24, 2, [.agg [.int .i64 o12.2.Low, .int .i64 o12.2.High]], 0⟩])] rfl rfl (all1 (VRd.ntl (rd_to (rd_ixV rfl rfl h17 te_42 ts_24) (v' := .vptr [.int .i64 x16.Low, .int .i64 x16.High] 0) rfl)) all0) ?_
              refine dops_rdW [(low, [⟨24, 2, [.agg [.int .i64 0, .int .i64 0]], 0⟩, ⟨24, 2, [.agg [.int .i64 o12.2.Low, .int .i64 o12.2.High]], 0⟩])] rfl rfl (all1 (VRd.ntl (rd_fieldVaddr rfl tf_24_0 ts_3 (by decide))) all0) ?_
              refine dops_rdW [(low, [⟨24, 2, [.agg [.int .i64 0, .int .i64 0]], 0⟩, ⟨24, 2, [.agg [.int .i64 o12.2.Low, .int .i64 o12.2.High]], 0⟩])] rfl rfl (all1 (VRd.ntl (rd_loadV1 rfl ta_3 rfl)) all0) ?_
              refine dops_rdW [(low, [⟨24, 2, [.agg [.int .i64 0, .int .i64 0]], 0⟩, ⟨24, 2, [.agg [.int .i64 o12.2.Low, .int .i64 o12.2.High]], 0⟩])] rfl rfl (all1 (VRd.ntl (rd_min rfl rfl)) all0) ?_
              refine dops_rdW [(low, [⟨24, 2, [.agg [.int .i64 0, .int .i64 0]], 0⟩, ⟨24, 2, [.agg [.int .i64 o12.2.Low, .int .i64 o12.2.High]], 0⟩])] rfl rfl (all1 (VRd.ntl (rd_fieldAddr rfl tf_24_1 ts_3 (by decide))) all0) ?_
              refine dops_rdW [(low, [⟨24, 2, [.agg [.int .i64 0, .int .i64 0]], 0⟩, ⟨24, 2, [.agg [.int .i64 o12.2.Low, .int .i64 o12.2.High]], 0⟩])] rfl rfl (all1 (VRd.ntl (rd_load1 rfl (getO_N rfl rfl) rfl ta_3 rfl)) all0) ?_
              refine dops_rdW [(low, [⟨24, 2, [.agg [.int .i64 0, .int .i64 0]], 0⟩, ⟨24, 2, [.agg [.int .i64 o12.2.Low, .int .i64 o12.2.High]], 0⟩]), (low, [⟨24, 2, [.agg [.int .i64 0, .int .i64 0]], 0⟩, ⟨24, 2, [.agg [.int .i64 (min o12.2.Low x16.Low), .int .i64 o12.2.High]], 0⟩])] rfl rfl (all1 (VRd.ntl (rd_mvV rfl)) (all1 (VRd.ntl (rd_mvV rfl)) all0)) ?_
              refine dops_rdW [(low, [⟨24, 2, [.agg [.int .i64 0, .int .i64 0]], 0⟩, ⟨24, 2, [.agg [.int .i64 o12.2.Low, .int .i64 o12.2.High]], 0⟩]), (low, [⟨24, 2, [.agg [.int .i64 0, .int .i64 0]], 0⟩, ⟨24, 2, [.agg [.int .i64 (min o12.2.Low x16.Low), .int .i64 o12.2.High]], 0⟩])] rfl rfl (all1 (VRd.ntl (rd_mvI rfl)) (all1 (VRd.ntl (rd_mvI rfl)) all0)) ?_
              refine dops_rdW [(low, [⟨24, 2, [.agg [.int .i64 0, .int .i64 0]], 0⟩, ⟨24, 2, [.agg [.int .i64 o12.2.Low, .int .i64 o12.2.High]], 0⟩]), (low, [⟨24, 2, [.agg [.int .i64 0, .int .i64 0]], 0⟩, ⟨24, 2, [.agg [.int .i64 (min o12.2.Low x16.Low), .int .i64 o12.2.High]], 0⟩])] rfl rfl (all1 (VRd.ntl (rd_to (rd_ixV rfl rfl h19 te_42 ts_24) (v' := .vptr [.int .i64 x18.Low, .int .i64 x18.High] 0) rfl)) (all1 (VRd.ntl (rd_to (rd_ixV rfl rfl h19 te_42 ts_24) (v' := .vptr [.int .i64 x18.Low, .int .i64 x18.High] 0) rfl)) all0)) ?_
              refine dops_rdW [(low, [⟨24, 2, [.agg [.int .i64 0, .int .i64 0]], 0⟩, ⟨24, 2, [.agg [.int .i64 o12.2.Low, .int .i64 o12.2.High]], 0⟩]), (low, [⟨24, 2, [.agg [.int .i64 0, .int .i64 0]], 0⟩, ⟨24, 2, [.agg [.int .i64 (min o12.2.Low x16.Low), .int .i64 o12.2.High]], 0⟩])] rfl rfl (all1 (VRd.ntl (rd_fieldVaddr rfl tf_24_1 ts_3 (by decide))) (all1 (VRd.ntl (rd_fieldVaddr rfl tf_24_1 ts_3 (by decide))) all0)) ?_
              refine dops_rdW [(low, [⟨24, 2, [.agg [.int .i64 0, .int .i64 0]], 0⟩, ⟨24, 2, [.agg [.int .i64 o12.2.Low, .int .i64 o12.2.High]], 0⟩]), (low, [⟨24, 2, [.agg [.int .i64 0, .int .i64 0]], 0⟩, ⟨24, 2, [.agg [.int .i64 (min o12.2.Low x16.Low), .int .i64 o12.2.High]], 0⟩])] rfl rfl (all1 (VRd.ntl (rd_loadV1 rfl ta_3 rfl)) (all1 (VRd.ntl (rd_loadV1 rfl ta_3 rfl)) all0)) ?_
              refine dops_rdW [(low, [⟨24, 2, [.agg [.int .i64 0, .int .i64 0]], 0⟩, ⟨24, 2, [.agg [.int .i64 o12.2.Low, .int .i64 o12.2.High]], 0⟩]), (low, [⟨24, 2, [.agg [.int .i64 0, .int .i64 0]], 0⟩, ⟨24, 2, [.agg [.int .i64 (min o12.2.Low x16.Low), .int .i64 o12.2.High]], 0⟩])] rfl rfl (all1 (VRd.ntl (rd_max rfl rfl)) (all1 (VRd.ntl (rd_max rfl rfl)) all0)) ?_
              refine dops_rdW [(low, [⟨24, 2, [.agg [.int .i64 0, .int .i64 0]], 0⟩, ⟨24, 2, [.agg [.int .i64 o12.2.Low, .int .i64 o12.2.High]], 0⟩])] rfl rfl (all1 (VRd.ntl (rd_fieldAddr rfl tf_24_0 ts_3 (by decide))) all0) ?_
              refine dops_ef (M := (low, [⟨24, 2, [.agg [.int .i64 0, .int .i64 0]], 0⟩, ⟨24, 2, [.agg [.int .i64 o12.2.Low, .int .i64 o12.2.High]], 0⟩])) (M' := (low, [⟨24, 2, [.agg [.int .i64 0, .int .i64 0]], 0⟩, ⟨24, 2, [.agg [.int .i64 (min o12.2.Low x16.Low), .int .i64 o12.2.High]], 0⟩])) rfl rfl rfl (vef_store (p := .int .i64 (min o12.2.Low x16.Low)) (e' := .agg [.int .i64 (min o12.2.Low x16.Low), .int .i64 o12.2.High]) rfl (getO_N rfl rfl) rfl rfl ts_3 rfl (nt_ne rfl) rfl (Nat.le_of_ble_eq_true rfl) rfl (setO_N rfl rfl)) ?_
              refine dops_rdW [(low, [⟨24, 2, [.agg [.int .i64 0, .int .i64 0]], 0⟩, ⟨24, 2, [.agg [.int .i64 (min o12.2.Low x16.Low), .int .i64 o12.2.High]], 0⟩])] rfl rfl (all1 (VRd.ntl (rd_fieldAddr rfl tf_24_1 ts_3 (by decide))) all0) ?_
              refine dops_ef (M := (low, [⟨24, 2, [.agg [.int .i64 0, .int .i64 0]], 0⟩, ⟨24, 2, [.agg [.int .i64 (min o12.2.Low x16.Low), .int .i64 o12.2.High]], 0⟩])) (M' := (low, [⟨24, 2, [.agg [.int .i64 0, .int .i64 0]], 0⟩, ⟨24, 2, [.agg [.int .i64 (min o12.2.Low x16.Low), .int .i64 (max o12.2.High x18.High)]], 0⟩])) rfl rfl rfl (vef_store (p := .int .i64 (max o12.2.High x18.High)) (e' := .agg [.int .i64 (min o12.2.Low x16.Low), .int .i64 (max o12.2.High x18.High)]) rfl (getO_N rfl rfl) rfl rfl ts_3 rfl (nt_ne rfl) rfl (Nat.le_of_ble_eq_true rfl) rfl (setO_N rfl rfl)) ?_
              refine dops_nil ?_
              obtain rfl := Option.some.inj hF
              refine onlyE ?_
              exact weak_sub ⟨rfl, rfl, rfl, rfl, rfl, trivial⟩
        · rintro _ _ _ _ ⟨rfl, hw⟩
          refine ⟨_, _, _, hw, ?_⟩
          refine vwp_region ?_
          refine vops_rd (rd_mvI rfl) rfl ?_
          refine vops_rd (rd_add rfl rfl rfl) rfl ?_
          refine vops_rd (rd_asI rfl) rfl ?_
          refine vops_nil ?_
          obtain rfl := Option.some.inj hF
          refine onlyE ?_
          exact weak_sub ⟨rfl, rfl, rfl, rfl, rfl, trivial⟩
      · have hF := bifF c5 hF
        refine vwp_exit ?_
        obtain rfl := Option.some.inj hF
        refine onlyE ?_
        exact weak_sub ⟨rfl, rfl, trivial⟩
    · rintro _ _ _ _ ⟨rfl, hw⟩
      refine ⟨_, _, _, hw, ?_⟩
      refine vwp_seq ?_
      refine vwp_region ?_
      refine vops_rd (rd_loadN (ds := [.int .i64 o4.Low, .int .i64 o4.High]) rfl (getO_N rfl rfl) rfl ta_24 ts_24 rfl rfl rfl) rfl ?_
      refine vops_efE (vef_store (p := .agg [.int .i64 o4.Low, .int .i64 o4.High]) (e' := .agg [.int .i64 o4.Low, .int .i64 o4.High]) rfl (getO_N rfl rfl) rfl rfl ts_24 rfl (nt_ne rfl) rfl (Nat.le_of_ble_eq_true rfl) rfl (setO_N rfl rfl)) rfl ?_
      refine vops_nil ?_
      refine vwp_ret ?_
      obtain rfl := Option.some.inj hF
      refine fnR ?_
      exact weak_pick rfl [(0, 0)] (by decide) ⟨rn_ptr 0 0 rfl rfl, trivial⟩ ⟨⟨_, rfl, rfl, .same _ _ _ _ (ltObj_es ⟨(lt_agg ⟨.int _ _, .int _ _, trivial⟩), trivial⟩)⟩, trivial⟩
  · rintro _ _ _ _ ⟨he, hw⟩
    refine ⟨_, _, _, hw, ?_⟩
    exact bodyQ_pure he [.agg [.int .i64 r.Low, .int .i64 r.High]] ⟨rd_loadN rfl (getO_N rfl rfl) rfl ta_24 ts_24 rfl rfl rfl, trivial⟩ ((lt_agg ⟨.int _ _, .int _ _, trivial⟩)) ⟨rfl, rfl⟩

theorem F_law06_WindowTogether_ok {p0 : List Int} {p1 : List T_Span} {r : Bool} (hF : F_law06_WindowTogether p0 p1 = some r) (low : List AObj) :
    VCalls Try.prog 6 [.vs 1 (List.map (PV.int .u8) p0), .vs 2 (List.map T_Span.enc p1)] low fun x low' => x = .bool r ∧ low' = low := by
  refine vcalls_of_body (nt := 77) (rs := [.tmp 4]) Try.func6 rfl rfl (Nat.le_of_ble_eq_true rfl) rfl ?_
  refine vwp_monoW (Q' := FnE (fun E' lw lc => Weak E' lw lc [(4, .bool r)] low [])) ?_ ?_
  · unfold F_law06_WindowTogether at hF
    refine vwp_seq ?_
    refine vwp_region ?_
    refine vops_rd (rd_asB rfl) rfl ?_
    refine vops_nil ?_
    refine vwp_seq ?_
    refine vwp_seq ?_
    refine vwp_region ?_
    refine vops_rd (rd_mvV rfl) rfl ?_
    refine vops_rd (rd_to (rd_lenV rfl rfl te_42) (congrArg (fun n : Nat => PV.int .i64 (n : Int)) (List.length_map _))) rfl ?_
    refine vops_rd (rd_gtr rfl rfl) rfl ?_
    refine vops_nil ?_
    refine vwp_cond rfl (fun c1 => ?_) (fun c1 => ?_)
    · have hF := bifT c1 hF
      refine vwp_seq ?_
      refine vwp_region ?_
      obtain ⟨x2, h3, hF⟩ := bnd hF
      refine vops_efE (vef_callP rfl Try.call13 (F_law06_awake_ok h3 _)) rfl ?_
      refine vops_rd (rd_asB rfl) rfl ?_
      refine vops_nil ?_
      refine vwp_ret ?_
      obtain rfl := Option.some.inj hF
      refine fnR ?_
      exact weak_sub ⟨rfl, trivial⟩
    · have hF := bifF c1 hF
      refine vwp_skip ?_
      refine vwp_seq ?_
      refine vwp_region ?_
      obtain ⟨x4, h5, hF⟩ := bnd hF
      refine vops_rd (rd_mvV rfl) rfl ?_
      refine vops_efE (vef_callN (r := .ptr (low.length + 0) 0 0 0) (os := [⟨51, 2, [.agg [.vs 1 (List.map (PV.int .u8) x4.l), .int .i64 x4.at_]], 0⟩]) rfl Try.call9 (F_draw_New_ok h5 _ (len_app rfl rfl))) rfl ?_
      refine vops_rd (rd_asP rfl) rfl ?_
      refine vops_nil ?_
      refine vwp_seq ?_
      refine vwp_region ?_
      refine vops_efE (vef_nilsN rfl rfl 24 2 (Nat.succ_pos _) (rd_asN rfl)) rfl ?_
      refine vops_nil ?_
      refine vwp_seq ?_
      refine vwp_seq ?_
      refine vwp_region ?_
      obtain ⟨x6, h7, hF⟩ := bnd hF
      refine vops_rd (rd_mvP rfl) rfl ?_
      refine vops_efE (vef_callMN (k := 0) (loc1 := [⟨51, 2, [.agg [.vs 1 (List.map (PV.int .u8) x6.1.l), .int .i64 x6.1.at_]], 0⟩, ⟨24, 2, List.map T_Span.enc ([] : List T_Span), 0⟩]) rfl rfl Try.call20 (F_draw_Codes_Next_ok h7 (get_N rfl rfl)) rfl) rfl ?_
      refine vops_rd (rd_asI rfl) rfl ?_
      refine vops_nil ?_
      refine vwp_block ?_
      obtain ⟨o9, ho9, hF⟩ := bnd hF
      refine vwp_monoW (vwp_loopC F_law06_WindowTogether_L1 (fun s8 E' lw lc => Weak E' lw lc [(1, .vs 2 (List.map T_Span.enc p1)), (5, .ptr (low.length + 0) 0 0 0), (6, .sl (low.length + 1) 0 0 (s8.2.2).length), (7, .int .i64 s8.1)] low [⟨51, 2, [.agg [.vs 1 (List.map (PV.int .u8) s8.2.1.l), .int .i64 s8.2.1.at_]], 0⟩, ⟨24, 2, List.map T_Span.enc s8.2.2, 0⟩]) (fun o9 => OnlyE (.exit 0) (fun E' lw lc => Weak E' lw lc [(1, .vs 2 (List.map T_Span.enc p1)), (6, .sl (low.length + 0) 0 0 (o9).length)] low [⟨24, 2, List.map T_Span.enc o9, 0⟩])) ho9 ?_ (by rintro _ _ _ _ ⟨h, _⟩ <;> cases h) ?_) ?_
      · exact weak_sub ⟨rfl, rfl, rfl, rfl, trivial⟩
      · rintro s8 os8 _ _ _ hF hw
        unfold F_law06_WindowTogether_L1 at hF
        refine vwp_weak hw ?_
        refine vwp_seq ?_
        refine vwp_seq ?_
        refine vwp_region ?_
        refine vops_rd (rd_mvI rfl) rfl ?_
        refine vops_rd (rd_gtr rfl rfl) rfl ?_
        refine vops_nil ?_
        refine vwp_cond rfl (fun c10 => ?_) (fun c10 => ?_)
        · have hF := bifT c10 hF
          refine vwp_skip ?_
          refine vwp_seq ?_
          refine vwp_block ?_
          refine vwp_seq ?_
          refine vwp_region ?_
          obtain ⟨x11, h12, hF⟩ := bnd hF
          refine vops_rd (rd_mvP rfl) rfl ?_
          refine vops_efE (vef_callMN (k := 0) (loc1 := [⟨51, 2, [.agg [.vs 1 (List.map (PV.int .u8) x11.1.l), .int .i64 x11.1.at_]], 0⟩, ⟨24, 2, List.map T_Span.enc s8.2.2, 0⟩]) rfl rfl Try.call8 (F_law06_measured_ok h12 (get_N rfl rfl)) rfl) rfl ?_
          refine vops_rd (rd_fieldN (ds := [.int .i64 x11.2.Span.Low, .int .i64 x11.2.Span.High]) rfl tf_26_2 ta_24 ts_24 rfl) rfl ?_
          refine vops_efE (vef_allocN rfl rfl tz_24 rfl rfl (Nat.succ_pos _) rfl) rfl ?_
          refine vops_efE (vef_store (p := .agg [.int .i64 x11.2.Span.Low, .int .i64 x11.2.Span.High]) (e' := .agg [.int .i64 x11.2.Span.Low, .int .i64 x11.2.Span.High]) rfl (getO_N rfl rfl) rfl rfl ts_24 rfl (nt_ne rfl) rfl (Nat.le_of_ble_eq_true rfl) rfl (setO_N rfl rfl)) rfl ?_
          refine vops_nil ?_
          refine vwp_seq ?_
          refine vwp_seq ?_
          refine vwp_region ?_
          obtain ⟨x13, h14, hF⟩ := bnd hF
          refine vops_rd (rd_mvP rfl) rfl ?_
          refine vops_efE (vef_callMN (k := 0) (loc1 := [⟨51, 2, [.agg [.vs 1 (List.map (PV.int .u8) x13.1.l), .int .i64 x13.1.at_]], 0⟩, ⟨24, 2, List.map T_Span.enc s8.2.2, 0⟩, ⟨24, 2, [.agg [.int .i64 x11.2.Span.Low, .int .i64 x11.2.Span.High]], 0⟩]) rfl rfl Try.call21 (F_draw_Codes_One_ok h14 (get_N rfl rfl)) rfl) rfl ?_
          refine vops_nil ?_
          obtain ⟨o15, ho15, hF⟩ := bnd hF
          refine vwp_monoW (Q' := (fun o15 => OnlyE .normal (fun E' lw lc => Weak E' lw lc [(1, .vs 2 (List.map T_Span.enc p1)), (5, .ptr (low.length + 0) 0 0 0), (6, .sl (low.length + 1) 0 0 (s8.2.2).length), (7, .int .i64 s8.1), (8, .ptr (low.length + 2) 0 0 0)] low [⟨51, 2, [.agg [.vs 1 (List.map (PV.int .u8) x13.1.l), .int .i64 x13.1.at_]], 0⟩, ⟨24, 2, List.map T_Span.enc s8.2.2, 0⟩, ⟨24, 2, [.agg [.int .i64 o15.Low, .int .i64 o15.High]], 0⟩])) o15) ?_ ?_
          · replace hF := ho15
            refine vwp_cond rfl (fun c16 => ?_) (fun c16 => ?_)
            · have hF := bifT c16 hF
              refine vwp_region ?_
              refine vops_rd (rd_fieldAddr rfl tf_24_1 ts_3 (by decide)) rfl ?_
              refine vops_rd (rd_load1 rfl (getO_N rfl rfl) rfl ta_3 rfl) rfl ?_
              refine vops_rd (rd_fieldAddr rfl tf_24_0 ts_3 (by decide)) rfl ?_
              refine vops_rd (rd_load1 rfl (getO_N rfl rfl) rfl ta_3 rfl) rfl ?_
              refine vops_rd (rd_fieldAddr rfl tf_24_0 ts_3 (by decide)) rfl ?_
              refine vops_efE (vef_store (p := .int .i64 x11.2.Span.High) (e' := .agg [.int .i64 x11.2.Span.High, .int .i64 x11.2.Span.High]) rfl (getO_N rfl rfl) rfl rfl ts_3 rfl (nt_ne rfl) rfl (Nat.le_of_ble_eq_true rfl) rfl (setO_N rfl rfl)) rfl ?_
              refine vops_rd (rd_fieldAddr rfl tf_24_1 ts_3 (by decide)) rfl ?_
              refine vops_efE (vef_store (p := .int .i64 x11.2.Span.Low) (e' := .agg [.int .i64 x11.2.Span.High, .int .i64 x11.2.Span.Low]) rfl (getO_N rfl rfl) rfl rfl ts_3 rfl (nt_ne rfl) rfl (Nat.le_of_ble_eq_true rfl) rfl (setO_N rfl rfl)) rfl ?_
              refine vops_nil ?_
              obtain rfl := Option.some.inj hF
              refine onlyE ?_
              exact weak_sub ⟨rfl, rfl, rfl, rfl, rfl, trivial⟩
            · have hF := bifF c16 hF
              refine vwp_skip ?_
              obtain rfl := Option.some.inj hF
              refine onlyE ?_
              exact weak_sub ⟨rfl, rfl, rfl, rfl, rfl, trivial⟩
          · rintro _ _ _ _ ⟨rfl, hw⟩
            refine ⟨_, _, _, hw, ?_⟩
            refine vwp_region ?_
            obtain ⟨x17, h18, hF⟩ := bnd hF
            refine vops_rd (rd_mvL rfl) rfl ?_
            refine vops_rd (rd_loadN (ds := [.int .i64 o15.Low, .int .i64 o15.High]) rfl (getO_N rfl rfl) rfl ta_24 ts_24 rfl rfl rfl) rfl ?_
            refine vops_efE (vef_litF (es := List.map T_Span.enc [o15]) ⟨rfl, rfl, trivial⟩ rfl rfl (nt_all rfl) te_42 ts_24 tz_24 rfl rfl (Nat.succ_pos _) (by decide) (lt_map T_Span.enc_lt)) rfl ?_
            refine vops_efE (vef_apL (f := T_Span.enc) (l := s8.2.2) (ys := [o15]) rfl rfl (getO_N rfl rfl) rfl (src_vs rfl) te_42 ts_24 tb_24 (by decide) tz_24 rfl h18 (setO_N rfl rfl)) rfl ?_
            refine vops_rd (rd_asL rfl) rfl ?_
            refine vops_nil ?_
            refine vwp_region ?_
            refine vops_rd (rd_mvI rfl) rfl ?_
            refine vops_rd (rd_sub rfl rfl rfl) rfl ?_
            refine vops_rd (rd_asI rfl) rfl ?_
            refine vops_nil ?_
            obtain rfl := Option.some.inj hF
            refine onlyE ?_
            exact weak_pick rfl [(0, 0), (1, 0 + 1)] (by decide) ⟨rn_low rfl (.vs _ _), rn_ptr 0 0 rfl rfl, rn_sl 1 1 rfl rfl, rn_low rfl (.int _ _), trivial⟩ ⟨⟨_, rfl, rfl, .same _ _ _ _ (ltObj_es ⟨(lt_agg ⟨.vs _ _, .int _ _, trivial⟩), trivial⟩)⟩, ⟨_, rfl, rfl, .same _ _ _ _ (ltObj_map T_Span.enc_lt)⟩, trivial⟩
        · have hF := bifF c10 hF
          refine vwp_exit ?_
          obtain rfl := Option.some.inj hF
          refine onlyE ?_
          exact weak_pick rfl [(1, 0)] (by decide) ⟨rn_low rfl (.vs _ _), rn_sl 0 1 rfl rfl, trivial⟩ ⟨⟨_, rfl, rfl, .same _ _ _ _ (ltObj_map T_Span.enc_lt)⟩, trivial⟩
      · rintro _ _ _ _ ⟨rfl, hw⟩
        refine ⟨_, _, _, hw, ?_⟩
        refine vwp_seq ?_
        refine vwp_seq ?_
        refine vwp_region ?_
        refine vops_rd (rd_mvL rfl) rfl ?_
        refine vops_rd (rd_mvV rfl) rfl ?_
        refine vops_weak (weak_freezeN (E' := [(42, .vs 2 (List.map T_Span.enc o9)), (43, .vs 2 (List.map T_Span.enc p1))]) (loc1 := [⟨24, 2, [], 0 + 1⟩]) rfl 0 rfl (lt_map T_Span.enc_lt) ⟨cv_sl rfl rfl rfl (full_take rfl), cv_same rfl, trivial⟩ ⟨.refl _, trivial⟩) ?_
        refine vops_efE (vef_litF (es := List.map (encS 2 T_Span.enc) [o9, p1]) ⟨rfl, rfl, rfl, rfl, trivial⟩ rfl rfl (nt_all rfl) te_45 ts_42 tz_42 rfl rfl (Nat.succ_pos _) (by decide) (lt_map (fun _ => .vs _ _))) rfl ?_
        refine vops_rd (rd_to (rd_lenV rfl rfl te_45) (congrArg (fun n : Nat => PV.int .i64 (n : Int)) (List.length_map _))) rfl ?_
        refine vops_rd (rd_mvI rfl) rfl ?_
        refine vops_nil ?_
        refine vwp_block ?_
        obtain ⟨o20, ho20, hF⟩ := bnd hF
        refine vwp_monoW (vwp_loopC (F_law06_WindowTogether_L2 p1 o9) (fun s19 E' lw lc => Weak E' lw lc [(44, .vs 1 (List.map (encS 2 T_Span.enc) [o9, p1])), (45, .int .i64 (([o9, p1]).length : Int)), (46, .int .i64 s19)] low []) (Sum.elim (fun j21 => OnlyE .ret (fun E' lw lc => Weak E' lw lc [(4, .bool false)] low [])) (fun j22 => OnlyE (.exit 2) (fun E' lw lc => Weak E' lw lc [] low []))) ho20 ?_ (by rintro (_|_) _ _ _ ⟨h, _⟩ <;> cases h) ?_) ?_
        · exact weak_pick rfl [] (by decide) ⟨rn_low rfl (.vs _ _), rn_low rfl (.int _ _), rn_low rfl (.int _ _), trivial⟩ trivial
        · rintro s19 os19 _ _ _ hF hw
          unfold F_law06_WindowTogether_L2 at hF
          refine vwp_weak hw ?_
          refine vwp_seq ?_
          refine vwp_region ?_
          refine vops_rd (rd_lss rfl rfl) rfl ?_
          refine vops_nil ?_
          refine vwp_seq ?_
          refine vwp_cond rfl (fun c23 => ?_) (fun c23 => ?_)
          · have hF := bifT c23 hF
            refine vwp_skip ?_
            refine vwp_seq ?_
            refine vwp_block ?_
            refine vwp_seq ?_
            refine vwp_region ?_
            obtain ⟨x24, h25, hF⟩ := bnd hF
            refine vops_rd (rd_to (rd_ixV rfl rfl h25 te_45 ts_42) (v' := .vptr [.vs 2 (List.map T_Span.enc x24)] 0) rfl) rfl ?_
            refine vops_rd (rd_loadV1 rfl ta_42 rfl) rfl ?_
            refine vops_rd (rd_asV rfl) rfl ?_
            refine vops_nil ?_
            refine vwp_seq ?_
            refine vwp_region ?_
            obtain ⟨x26, h27, hF⟩ := bnd hF
            refine vops_rd (rd_mvV rfl) rfl ?_
            refine vops_efE (vef_callP rfl Try.call22 (F_window_Meet_ok h27 _)) rfl ?_
            refine vops_rd (rd_mvT rfl) rfl ?_
            refine vops_rd (rd_extract rfl rfl) rfl ?_
            refine vops_rd (rd_extract rfl rfl) rfl ?_
            refine vops_efE (vef_allocN rfl rfl tz_24 rfl rfl (Nat.succ_pos _) rfl) rfl ?_
            refine vops_efE (vef_store (p := .agg [.int .i64 x26.1.Low, .int .i64 x26.1.High]) (e' := .agg [.int .i64 x26.1.Low, .int .i64 x26.1.High]) rfl (getO_N rfl rfl) rfl rfl ts_24 rfl (nt_ne rfl) rfl (Nat.le_of_ble_eq_true rfl) rfl (setO_N rfl rfl)) rfl ?_
            refine vops_rd (rd_asB rfl) rfl ?_
            refine vops_nil ?_
            refine vwp_seq ?_
            refine vwp_region ?_
            obtain ⟨x28, h29, hF⟩ := bnd hF
            refine vops_rd (rd_mvV rfl) rfl ?_
            refine vops_efE (vef_callP rfl Try.call23 (F_ref06_Meet_ok h29 _)) rfl ?_
            refine vops_rd (rd_mvT rfl) rfl ?_
            refine vops_rd (rd_extract rfl rfl) rfl ?_
            refine vops_rd (rd_extract rfl rfl) rfl ?_
            refine vops_efE (vef_allocN rfl rfl tz_24 rfl rfl (Nat.succ_pos _) rfl) rfl ?_
            refine vops_efE (vef_store (p := .agg [.int .i64 x28.1.Low, .int .i64 x28.1.High]) (e' := .agg [.int .i64 x28.1.Low, .int .i64 x28.1.High]) rfl (getO_N rfl rfl) rfl rfl ts_24 rfl (nt_ne rfl) rfl (Nat.le_of_ble_eq_true rfl) rfl (setO_N rfl rfl)) rfl ?_
            refine vops_rd (rd_asB rfl) rfl ?_
            refine vops_nil ?_
            refine vwp_seq ?_
            obtain ⟨o30, ho30, hF⟩ := bnd hF
            refine vwp_monoW (Q' := (fun o30 => OnlyE .normal (fun E' lw lc => Weak E' lw lc [(44, .vs 1 (List.map (encS 2 T_Span.enc) [o9, p1])), (45, .int .i64 (([o9, p1]).length : Int)), (46, .int .i64 s19), (74, .bool o30)] low [])) o30) ?_ ?_
            · replace hF := ho30
              refine vwp_region ?_
              rcases Bool.eq_false_or_eq_true (!((x26.1.Low == x28.1.Low) && ((x26.1.High == x28.1.High) && true))) with c31 | c31
              · have hF := bifT c31 hF
                refine vops_rd (rd_loadN (ds := [.int .i64 x26.1.Low, .int .i64 x26.1.High]) rfl (getO_N rfl rfl) rfl ta_24 ts_24 rfl rfl rfl) rfl ?_
                refine vops_rd (rd_loadN (ds := [.int .i64 x28.1.Low, .int .i64 x28.1.High]) rfl (getO_N rfl rfl) rfl ta_24 ts_24 rfl rfl rfl) rfl ?_
                refine vops_rd (rd_neqV (tab := eqTab) eqTab_ok rfl rfl eqg_24 rfl) rfl ?_
                refine vops_rd (rd_mvB rfl) rfl ?_
                refine vops_skip rfl rfl (neT c31) rfl ?_
                refine vops_skip rfl rfl (neT c31) rfl ?_
                refine vops_skip rfl rfl (neT c31) rfl ?_
                refine vops_rd (rd_pickT (congrArg PV.bool c31) rfl) rfl ?_
                refine vops_rd (rd_mvB rfl) rfl ?_
                refine vops_skip rfl rfl (by decide) rfl ?_
                refine vops_skip rfl rfl (by decide) rfl ?_
                refine vops_skip rfl rfl (by decide) rfl ?_
                refine vops_skip rfl rfl (by decide) rfl ?_
                refine vops_skip rfl rfl (by decide) rfl ?_
                refine vops_rd (rd_pickT rfl rfl) rfl ?_
                refine vops_nil ?_
                obtain rfl := Option.some.inj hF
                refine onlyE ?_
                exact weak_pick rfl [] (by decide) ⟨rn_low rfl (.vs _ _), rn_low rfl (.int _ _), rn_low rfl (.int _ _), rn_low rfl (.bool _), trivial⟩ trivial
              · have hF := bifF c31 hF
                rcases Bool.eq_false_or_eq_true (x26.2 != x28.2) with c32 | c32
                · have hF := bifT c32 hF
                  refine vops_rd (rd_loadN (ds := [.int .i64 x26.1.Low, .int .i64 x26.1.High]) rfl (getO_N rfl rfl) rfl ta_24 ts_24 rfl rfl rfl) rfl ?_
                  refine vops_rd (rd_loadN (ds := [.int .i64 x28.1.Low, .int .i64 x28.1.High]) rfl (getO_N rfl rfl) rfl ta_24 ts_24 rfl rfl rfl) rfl ?_
                  refine vops_rd (rd_neqV (tab := eqTab) eqTab_ok rfl rfl eqg_24 rfl) rfl ?_
                  refine vops_rd (rd_mvB rfl) rfl ?_
                  refine vops_take rfl (congrArg PV.bool c31) ?_
                  refine vops_rd (rd_mvB rfl) rfl ?_
                  refine vops_take rfl (congrArg PV.bool c31) ?_
                  refine vops_rd (rd_mvB rfl) rfl ?_
                  refine vops_take rfl (congrArg PV.bool c31) ?_
                  refine vops_rd (rd_neqB rfl rfl tbo_4) rfl ?_
                  refine vops_rd (rd_pickF (congrArg PV.bool c31) rfl) rfl ?_
                  refine vops_rd (rd_mvB rfl) rfl ?_
                  refine vops_skip rfl rfl (neT c32) rfl ?_
                  refine vops_skip rfl rfl (neT c32) rfl ?_
                  refine vops_skip rfl rfl (neT c32) rfl ?_
                  refine vops_skip rfl rfl (neT c32) rfl ?_
                  refine vops_skip rfl rfl (neT c32) rfl ?_
                  refine vops_rd (rd_pickT (congrArg PV.bool c32) rfl) rfl ?_
                  refine vops_nil ?_
                  obtain rfl := Option.some.inj hF
                  refine onlyE ?_
                  exact weak_pick rfl [] (by decide) ⟨rn_low rfl (.vs _ _), rn_low rfl (.int _ _), rn_low rfl (.int _ _), rn_low rfl (.bool _), trivial⟩ trivial
                · have hF := bifF c32 hF
                  obtain ⟨x33, h34, hF⟩ := bnd hF
                  obtain ⟨x35, h36, hF⟩ := bnd hF
                  refine vops_rd (rd_loadN (ds := [.int .i64 x26.1.Low, .int .i64 x26.1.High]) rfl (getO_N rfl rfl) rfl ta_24 ts_24 rfl rfl rfl) rfl ?_
                  refine vops_rd (rd_loadN (ds := [.int .i64 x28.1.Low, .int .i64 x28.1.High]) rfl (getO_N rfl rfl) rfl ta_24 ts_24 rfl rfl rfl) rfl ?_
                  refine vops_rd (rd_neqV (tab := eqTab) eqTab_ok rfl rfl eqg_24 rfl) rfl ?_
                  refine vops_rd (rd_mvB rfl) rfl ?_
                  refine vops_take rfl (congrArg PV.bool c31) ?_
                  refine vops_rd (rd_mvB rfl) rfl ?_
                  refine vops_take rfl (congrArg PV.bool c31) ?_
                  refine vops_rd (rd_mvB rfl) rfl ?_
                  refine vops_take rfl (congrArg PV.bool c31) ?_
                  refine vops_rd (rd_neqB rfl rfl tbo_4) rfl ?_
                  refine vops_rd (rd_pickF (congrArg PV.bool c31) rfl) rfl ?_
                  refine vops_rd (rd_mvB rfl) rfl ?_
                  refine vops_take rfl (congrArg PV.bool c32) ?_
                  refine vops_rd (rd_mvV rfl) rfl ?_
                  refine vops_take rfl (congrArg PV.bool c32) ?_
                  refine vops_efE (vef_callP rfl Try.call24 (F_window_Hull_ok h34 _)) rfl ?_
                  refine vops_take rfl (congrArg PV.bool c32) ?_
                  refine vops_rd (rd_mvV rfl) rfl ?_
                  refine vops_take rfl (congrArg PV.bool c32) ?_
                  refine vops_efE (vef_callP rfl Try.call25 (F_ref06_Hull_ok h36 _)) rfl ?_
                  refine vops_take rfl (congrArg PV.bool c32) ?_
                  refine vops_rd (rd_neqV (tab := eqTab) eqTab_ok rfl rfl eqg_24 rfl) rfl ?_
                  refine vops_rd (rd_pickF (congrArg PV.bool c32) rfl) rfl ?_
                  refine vops_nil ?_
                  obtain rfl := Option.some.inj hF
                  refine onlyE ?_
                  exact weak_pick rfl [] (by decide) ⟨rn_low rfl (.vs _ _), rn_low rfl (.int _ _), rn_low rfl (.int _ _), rn_low rfl (.bool _), trivial⟩ trivial
            · rintro _ _ _ _ ⟨rfl, hw⟩
              refine ⟨_, _, _, hw, ?_⟩
              refine vwp_cond rfl (fun c37 => ?_) (fun c37 => ?_)
              · have hF := bifT c37 hF
                refine vwp_seq ?_
                refine vwp_region ?_
                refine vops_rd (rd_asB rfl) rfl ?_
                refine vops_nil ?_
                refine vwp_ret ?_
                obtain rfl := Option.some.inj hF
                refine onlyE ?_
                exact weak_sub ⟨rfl, trivial⟩
              · have hF := bifF c37 hF
                refine vwp_skip ?_
                refine vwp_region ?_
                refine vops_rd (rd_add rfl rfl rfl) rfl ?_
                refine vops_rd (rd_mvI rfl) rfl ?_
                refine vops_nil ?_
                obtain rfl := Option.some.inj hF
                refine onlyE ?_
                exact weak_sub ⟨rfl, rfl, rfl, trivial⟩
          · have hF := bifF c23 hF
            refine vwp_exit ?_
            obtain rfl := Option.some.inj hF
            refine onlyE ?_
            exact weak_sub trivial
        · rcases o20 with j21 | j22
          · replace hF := elimL hF
            rintro _ _ _ _ ⟨rfl, hw⟩
            refine ⟨_, _, _, hw, ?_⟩
            obtain rfl := Option.some.inj hF
            refine fnR ?_
            exact weak_sub ⟨rfl, trivial⟩
          · replace hF := elimR hF
            rintro _ _ _ _ ⟨rfl, hw⟩
            refine ⟨_, _, _, hw, ?_⟩
            refine vwp_seq ?_
            refine vwp_region ?_
            obtain ⟨x38, h39, hF⟩ := bnd hF
            refine vops_efE (vef_callP rfl Try.call13 (F_law06_awake_ok h39 _)) rfl ?_
            refine vops_rd (rd_asB rfl) rfl ?_
            refine vops_nil ?_
            refine vwp_ret ?_
            obtain rfl := Option.some.inj hF
            refine fnR ?_
            exact weak_sub ⟨rfl, trivial⟩
  · rintro _ _ _ _ ⟨he, hw⟩
    refine ⟨_, _, _, hw, ?_⟩
    exact bodyQ_pure he [.bool r] ⟨rfl, trivial⟩ (.bool _) ⟨rfl, rfl⟩

theorem F_law06_WindowMeets_ok {p0 : List Int} {p1 : Int} {r : Bool} (hF : F_law06_WindowMeets p0 p1 = some r) (low : List AObj) :
    VCalls Try.prog 7 [.vs 1 (List.map (PV.int .u8) p0), .int .i64 p1] low fun x low' => x = .bool r ∧ low' = low := by
  refine vcalls_of_body (nt := 129) (rs := [.tmp 4]) Try.func7 rfl rfl (Nat.le_of_ble_eq_true rfl) rfl ?_
  refine vwp_monoW (Q' := FnE (fun E' lw lc => Weak E' lw lc [(4, .bool r)] low [])) ?_ ?_
  · unfold F_law06_WindowMeets at hF
    refine vwp_seq ?_
    refine vwp_region ?_
    refine vops_rd (rd_asB rfl) rfl ?_
    refine vops_nil ?_
    refine vwp_seq ?_
    refine vwp_region ?_
    obtain ⟨x1, h2, hF⟩ := bnd hF
    refine vops_rd (rd_mvV rfl) rfl ?_
    refine vops_efE (vef_callN (r := .ptr (low.length + 0) 0 0 0) (os := [⟨51, 2, [.agg [.vs 1 (List.map (PV.int .u8) x1.l), .int .i64 x1.at_]], 0⟩]) rfl Try.call9 (F_draw_New_ok h2 _ (len_app rfl rfl))) rfl ?_
    refine vops_rd (rd_asP rfl) rfl ?_
    refine vops_nil ?_
    refine vwp_seq ?_
    refine vwp_region ?_
    refine vops_efE (vef_nilsN rfl rfl 24 2 (Nat.succ_pos _) (rd_asN rfl)) rfl ?_
    refine vops_rd (rd_nv (sz := 2) (rd_asN rfl)) rfl ?_
    refine vops_nil ?_
    refine vwp_seq ?_
    refine vwp_region ?_
    obtain ⟨x3, h4, hF⟩ := bnd hF
    refine vops_rd (rd_mvI rfl) rfl ?_
    refine vops_efE (vef_callP rfl Try.call10 (F_draw_Mod_ok h4 _)) rfl ?_
    refine vops_rd (rd_sub rfl rfl rfl) rfl ?_
    refine vops_rd (rd_asI rfl) rfl ?_
    refine vops_nil ?_
    refine vwp_seq ?_
    refine vwp_region ?_
    refine vops_rd (rd_asB rfl) rfl ?_
    refine vops_nil ?_
    refine vwp_seq ?_
    refine vwp_seq ?_
    refine vwp_region ?_
    obtain ⟨x5, h6, hF⟩ := bnd hF
    refine vops_rd (rd_mvP rfl) rfl ?_
    refine vops_efE (vef_callMN (k := 0) (loc1 := [⟨51, 2, [.agg [.vs 1 (List.map (PV.int .u8) x5.1.l), .int .i64 x5.1.at_]], 0⟩, ⟨24, 2, List.map T_Span.enc ([] : List T_Span), 0⟩]) rfl rfl Try.call20 (F_draw_Codes_Next_ok h6 (get_N rfl rfl)) rfl) rfl ?_
    refine vops_rd (rd_asI rfl) rfl ?_
    refine vops_nil ?_
    refine vwp_block ?_
    obtain ⟨o8, ho8, hF⟩ := bnd hF
    refine vwp_monoW (vwp_loopC (F_law06_WindowMeets_L1 x3) (fun s7 E' lw lc => Weak E' lw lc [(5, .ptr (low.length + 0) 0 0 0), (6, .sl (low.length + 1) 0 0 (s7.2.2.2.2).length), (7, .vs 2 (List.map T_Span.enc s7.1)), (8, .int .i64 (IntKind.i64.wrap (x3 - 40))), (9, .bool s7.2.1), (10, .int .i64 s7.2.2.1)] low [⟨51, 2, [.agg [.vs 1 (List.map (PV.int .u8) s7.2.2.2.1.l), .int .i64 s7.2.2.2.1.at_]], 0⟩, ⟨24, 2, List.map T_Span.enc s7.2.2.2.2, 0⟩]) (fun o8 => OnlyE (.exit 0) (fun E' lw lc => Weak E' lw lc [(6, .sl (low.length + 0) 0 0 (o8.2.2).length), (7, .vs 2 (List.map T_Span.enc o8.1)), (8, .int .i64 (IntKind.i64.wrap (x3 - 40))), (9, .bool o8.2.1)] low [⟨24, 2, List.map T_Span.enc o8.2.2, 0⟩])) ho8 ?_ (by rintro _ _ _ _ ⟨h, _⟩ <;> cases h) ?_) ?_
    · exact weak_sub ⟨rfl, rfl, rfl, rfl, rfl, rfl, trivial⟩
    · rintro s7 os7 _ _ _ hF hw
      unfold F_law06_WindowMeets_L1 at hF
      refine vwp_weak hw ?_
      refine vwp_seq ?_
      refine vwp_seq ?_
      refine vwp_region ?_
      refine vops_rd (rd_mvI rfl) rfl ?_
      refine vops_rd (rd_gtr rfl rfl) rfl ?_
      refine vops_nil ?_
      refine vwp_cond rfl (fun c9 => ?_) (fun c9 => ?_)
      · have hF := bifT c9 hF
        refine vwp_skip ?_
        refine vwp_seq ?_
        refine vwp_block ?_
        refine vwp_seq ?_
        refine vwp_region ?_
        obtain ⟨x10, h11, hF⟩ := bnd hF
        refine vops_rd (rd_mvP rfl) rfl ?_
        refine vops_efE (vef_callMN (k := 0) (loc1 := [⟨51, 2, [.agg [.vs 1 (List.map (PV.int .u8) x10.1.l), .int .i64 x10.1.at_]], 0⟩, ⟨24, 2, List.map T_Span.enc s7.2.2.2.2, 0⟩]) rfl rfl Try.call8 (F_law06_measured_ok h11 (get_N rfl rfl)) rfl) rfl ?_
        refine vops_rd (rd_fieldN (ds := [.int .i64 x10.2.Span.Low, .int .i64 x10.2.Span.High]) rfl tf_26_2 ta_24 ts_24 rfl) rfl ?_
        refine vops_efE (vef_allocN rfl rfl tz_24 rfl rfl (Nat.succ_pos _) rfl) rfl ?_
        refine vops_efE (vef_store (p := .agg [.int .i64 x10.2.Span.Low, .int .i64 x10.2.Span.High]) (e' := .agg [.int .i64 x10.2.Span.Low, .int .i64 x10.2.Span.High]) rfl (getO_N rfl rfl) rfl rfl ts_24 rfl (nt_ne rfl) rfl (Nat.le_of_ble_eq_true rfl) rfl (setO_N rfl rfl)) rfl ?_
        refine vops_nil ?_
        refine vwp_seq ?_
        obtain ⟨o12, ho12, hF⟩ := bnd hF
        refine vwp_monoW (Q' := (fun o12 => OnlyE .normal (fun E' lw lc => Weak E' lw lc [(5, .ptr (low.length + 0) 0 0 0), (6, .sl (low.length + 1) 0 0 (s7.2.2.2.2).length), (7, .vs 2 (List.map T_Span.enc s7.1)), (8, .int .i64 (IntKind.i64.wrap (x3 - 40))), (9, .bool o12), (10, .int .i64 s7.2.2.1), (11, .ptr (low.length + 2) 0 0 0)] low [⟨51, 2, [.agg [.vs 1 (List.map (PV.int .u8) x10.1.l), .int .i64 x10.1.at_]], 0⟩, ⟨24, 2, List.map T_Span.enc s7.2.2.2.2, 0⟩, ⟨24, 2, [.agg [.int .i64 x10.2.Span.Low, .int .i64 x10.2.Span.High]], 0⟩])) o12) ?_ ?_
        · replace hF := ho12
          refine vwp_region ?_
          rcases Bool.eq_false_or_eq_true s7.2.1 with c13 | c13
          · have hF := bifT c13 hF
            rcases Bool.eq_false_or_eq_true (decide (x10.2.Span.Low ≤ (IntKind.i64.wrap (x3 - 40)))) with c14 | c14
            · have hF := bifT c14 hF
              refine vops_rd (rd_mvB rfl) rfl ?_
              refine vops_rd (rd_mvB rfl) rfl ?_
              refine vops_take rfl (congrArg PV.bool c13) ?_
              refine vops_rd (rd_fieldAddr rfl tf_24_0 ts_3 (by decide)) rfl ?_
              refine vops_take rfl (congrArg PV.bool c13) ?_
              refine vops_rd (rd_load1 rfl (getO_N rfl rfl) rfl ta_3 rfl) rfl ?_
              refine vops_take rfl (congrArg PV.bool c13) ?_
              refine vops_rd (rd_mvI rfl) rfl ?_
              refine vops_take rfl (congrArg PV.bool c13) ?_
              refine vops_rd (rd_leq rfl rfl) rfl ?_
              refine vops_rd (rd_pickT (congrArg PV.bool c13) rfl) rfl ?_
              refine vops_rd (rd_mvB rfl) rfl ?_
              refine vops_take rfl (congrArg PV.bool c14) ?_
              refine vops_rd (rd_mvI rfl) rfl ?_
              refine vops_take rfl (congrArg PV.bool c14) ?_
              refine vops_rd (rd_fieldAddr rfl tf_24_1 ts_3 (by decide)) rfl ?_
              refine vops_take rfl (congrArg PV.bool c14) ?_
              refine vops_rd (rd_load1 rfl (getO_N rfl rfl) rfl ta_3 rfl) rfl ?_
              refine vops_take rfl (congrArg PV.bool c14) ?_
              refine vops_rd (rd_leq rfl rfl) rfl ?_
              refine vops_rd (rd_pickT (congrArg PV.bool c14) rfl) rfl ?_
              refine vops_rd (rd_asB rfl) rfl ?_
              refine vops_nil ?_
              obtain rfl := Option.some.inj hF
              refine onlyE ?_
              exact weak_sub ⟨rfl, rfl, rfl, rfl, rfl, rfl, rfl, trivial⟩
            · have hF := bifF c14 hF
              refine vops_rd (rd_mvB rfl) rfl ?_
              refine vops_rd (rd_mvB rfl) rfl ?_
              refine vops_take rfl (congrArg PV.bool c13) ?_
              refine vops_rd (rd_fieldAddr rfl tf_24_0 ts_3 (by decide)) rfl ?_
              refine vops_take rfl (congrArg PV.bool c13) ?_
              refine vops_rd (rd_load1 rfl (getO_N rfl rfl) rfl ta_3 rfl) rfl ?_
              refine vops_take rfl (congrArg PV.bool c13) ?_
              refine vops_rd (rd_mvI rfl) rfl ?_
              refine vops_take rfl (congrArg PV.bool c13) ?_
              refine vops_rd (rd_leq rfl rfl) rfl ?_
              refine vops_rd (rd_pickT (congrArg PV.bool c13) rfl) rfl ?_
              refine vops_rd (rd_mvB rfl) rfl ?_
              refine vops_skip rfl rfl (neF c14) rfl ?_
              refine vops_skip rfl rfl (neF c14) rfl ?_
              refine vops_skip rfl rfl (neF c14) rfl ?_
              refine vops_skip rfl rfl (neF c14) rfl ?_
              refine vops_rd (rd_pickF (congrArg PV.bool c14) rfl) rfl ?_
              refine vops_rd (rd_asB rfl) rfl ?_
              refine vops_nil ?_
              obtain rfl := Option.some.inj hF
              refine onlyE ?_
              exact weak_sub ⟨rfl, rfl, rfl, rfl, rfl, rfl, rfl, trivial⟩
          · have hF := bifF c13 hF
            refine vops_rd (rd_mvB rfl) rfl ?_
            refine vops_rd (rd_mvB rfl) rfl ?_
            refine vops_skip rfl rfl (neF c13) rfl ?_
            refine vops_skip rfl rfl (neF c13) rfl ?_
            refine vops_skip rfl rfl (neF c13) rfl ?_
            refine vops_skip rfl rfl (neF c13) rfl ?_
            refine vops_rd (rd_pickF (congrArg PV.bool c13) rfl) rfl ?_
            refine vops_rd (rd_mvB rfl) rfl ?_
            refine vops_skip rfl rfl (by decide) rfl ?_
            refine vops_skip rfl rfl (by decide) rfl ?_
            refine vops_skip rfl rfl (by decide) rfl ?_
            refine vops_skip rfl rfl (by decide) rfl ?_
            refine vops_rd (rd_pickF rfl rfl) rfl ?_
            refine vops_rd (rd_asB rfl) rfl ?_
            refine vops_nil ?_
            obtain rfl := Option.some.inj hF
            refine onlyE ?_
            exact weak_sub ⟨rfl, rfl, rfl, rfl, rfl, rfl, rfl, trivial⟩
        · rintro _ _ _ _ ⟨rfl, hw⟩
          refine ⟨_, _, _, hw, ?_⟩
          obtain ⟨x15, h16, hF⟩ := bnd hF
          obtain ⟨x17, h18, hF⟩ := bnd hF
          refine vwp_weak (weak_room 24 2 (Nat.succ_pos _)) ?_
          refine vwp_drawnX [[], [], [1], [0, 1, 2], [], [4], [], [0, 1, 2, 3, 4, 5, 6], [0, 1, 2, 3, 4, 5, 6, 7], [0, 1, 2, 3, 4, 5, 6, 7, 8]] [false, false, false, true, false, true, false, true, false, false] [([], low, [⟨51, 2, [.agg [.vs 1 (List.map (PV.int .u8) x10.1.l), .int .i64 x10.1.at_]], 0⟩, ⟨24, 2, List.map T_Span.enc s7.2.2.2.2, 0⟩, ⟨24, 2, [.agg [.int .i64 x10.2.Span.Low, .int .i64 x10.2.Span.High]], 0⟩, ⟨24, 2, [], 0⟩]), ([3], low, [⟨51, 2, [.agg [.vs 1 (List.map (PV.int .u8) x10.1.l), .int .i64 x10.1.at_]], 0⟩, ⟨24, 2, List.map T_Span.enc x15, 0 + 1⟩, ⟨24, 2, [.agg [.int .i64 x10.2.Span.Low, .int .i64 x10.2.Span.High]], 0⟩, ⟨24, 2, [], 0⟩]), ([5], low, [⟨51, 2, [.agg [.vs 1 (List.map (PV.int .u8) x10.1.l), .int .i64 x10.1.at_]], 0⟩, ⟨24, 2, List.map T_Span.enc s7.2.2.2.2, 0⟩, ⟨24, 2, [.agg [.int .i64 x10.2.Span.Low, .int .i64 x10.2.Span.High]], 0⟩, ⟨24, 2, List.map T_Span.enc [x10.2.Span], 1⟩]), ([3, 5], low, [⟨51, 2, [.agg [.vs 1 (List.map (PV.int .u8) x10.1.l), .int .i64 x10.1.at_]], 0⟩, ⟨24, 2, List.map T_Span.enc x15, 0 + 1⟩, ⟨24, 2, [.agg [.int .i64 x10.2.Span.Low, .int .i64 x10.2.Span.High]], 0⟩, ⟨24, 2, List.map T_Span.enc [x10.2.Span], 1⟩]), ([3, 5, 7], low, [⟨51, 2, [.agg [.vs 1 (List.map (PV.int .u8) x10.1.l), .int .i64 x10.1.at_]], 0⟩, ⟨24, 2, List.map T_Span.enc x15, 0 + 1⟩, ⟨24, 2, [.agg [.int .i64 x10.2.Span.Low, .int .i64 x10.2.Span.High]], 0⟩, ⟨24, 2, List.map T_Span.enc x17, 1 + 1⟩])] mixed (by kernel_rfl) rfl (lenAllX (allx1 rfl (allx1 rfl (allx1 rfl (allx1 rfl (allx1 rfl allx0)))))) rfl [3, 5, 7] (low, [⟨51, 2, [.agg [.vs 1 (List.map (PV.int .u8) x10.1.l), .int .i64 x10.1.at_]], 0⟩, ⟨24, 2, List.map T_Span.enc x15, 0 + 1⟩, ⟨24, 2, [.agg [.int .i64 x10.2.Span.Low, .int .i64 x10.2.Span.High]], 0⟩, ⟨24, 2, List.map T_Span.enc x17, 1 + 1⟩]) rfl rfl ?_
          refine dopx_rd _ rfl rfl (rx1 (VRd.ntl (rd_mvL rfl)) (rx1 (VRd.ntl (rd_mvL rfl)) rx0)) ?_
          refine dopx_rd _ rfl rfl (rx1 (VRd.ntl (rd_loadN (ds := [.int .i64 x10.2.Span.Low, .int .i64 x10.2.Span.High]) rfl (getO_N rfl rfl) rfl ta_24 ts_24 rfl rfl rfl)) (rx1 (VRd.ntl (rd_loadN (ds := [.int .i64 x10.2.Span.Low, .int .i64 x10.2.Span.High]) rfl (getO_N rfl rfl) rfl ta_24 ts_24 rfl rfl rfl)) rx0)) ?_
          refine dopx_rd _ rfl rfl (rx1 (nt_of (vef_litF (es := List.map T_Span.enc [x10.2.Span]) ⟨rfl, rfl, trivial⟩ rfl rfl (nt_all rfl) te_42 ts_24 tz_24 rfl rfl (Nat.succ_pos _) (by decide) (lt_map T_Span.enc_lt))) (rx1 (nt_of (vef_litF (es := List.map T_Span.enc [x10.2.Span]) ⟨rfl, rfl, trivial⟩ rfl rfl (nt_all rfl) te_42 ts_24 tz_24 rfl rfl (Nat.succ_pos _) (by decide) (lt_map T_Span.enc_lt))) rx0)) ?_
          refine dopx_ef _ rfl rfl (ex1 1 rfl (vef_apL (f := T_Span.enc) (l := s7.2.2.2.2) (ys := [x10.2.Span]) rfl rfl (getO_N rfl rfl) rfl (src_vs rfl) te_42 ts_24 tb_24 (by decide) tz_24 rfl h16 (setO_N rfl rfl)) (ex1 3 rfl (vef_apL (f := T_Span.enc) (l := s7.2.2.2.2) (ys := [x10.2.Span]) rfl rfl (getO_N rfl rfl) rfl (src_vs rfl) te_42 ts_24 tb_24 (by decide) tz_24 rfl h16 (setO_N rfl rfl)) ex0)) ?_
          refine dopx_rd _ rfl rfl (rx1 (VRd.ntl (rd_loadN (ds := [.int .i64 x10.2.Span.Low, .int .i64 x10.2.Span.High]) rfl (getO_N rfl rfl) rfl ta_24 ts_24 rfl rfl rfl)) (rx1 (VRd.ntl (rd_loadN (ds := [.int .i64 x10.2.Span.Low, .int .i64 x10.2.Span.High]) rfl (getO_N rfl rfl) rfl ta_24 ts_24 rfl rfl rfl)) rx0)) ?_
          refine dopx_ef _ rfl rfl (ex1 2 rfl (vef_into (f := 4) (k := 3) (m := 1) (os := [⟨24, 2, List.map T_Span.enc [x10.2.Span], 0⟩]) (os' := [⟨24, 2, List.map T_Span.enc [x10.2.Span], 1⟩]) (v := .sl (low.length + 4) 0 0 ([x10.2.Span]).length) rfl rfl rfl ⟨⟨_, rfl, rfl⟩, trivial⟩ (vef_litN rfl rfl (es := List.map T_Span.enc [x10.2.Span]) ⟨rfl, rfl, trivial⟩ rfl rfl (nt_all rfl) te_42 ts_24 tz_24 rfl rfl (Nat.succ_pos _) (by decide)) (mv_sl 0 rfl rfl rfl rfl) ⟨.same _ _ _ (ltObj_map T_Span.enc_lt), trivial⟩ rfl) (ex1 3 rfl (vef_into (f := 4) (k := 3) (m := 1) (os := [⟨24, 2, List.map T_Span.enc [x10.2.Span], 0⟩]) (os' := [⟨24, 2, List.map T_Span.enc [x10.2.Span], 1⟩]) (v := .sl (low.length + 4) 0 0 ([x10.2.Span]).length) rfl rfl rfl ⟨⟨_, rfl, rfl⟩, trivial⟩ (vef_litN rfl rfl (es := List.map T_Span.enc [x10.2.Span]) ⟨rfl, rfl, trivial⟩ rfl rfl (nt_all rfl) te_42 ts_24 tz_24 rfl rfl (Nat.succ_pos _) (by decide)) (mv_sl 0 rfl rfl rfl rfl) ⟨.same _ _ _ (ltObj_map T_Span.enc_lt), trivial⟩ rfl) ex0)) ?_
          refine dopx_rd _ rfl rfl (rx1 (VRd.ntl (rd_mvV rfl)) (rx1 (VRd.ntl (rd_mvV rfl)) (rx1 (VRd.ntl (rd_mvV rfl)) (rx1 (VRd.ntl (rd_mvV rfl)) rx0)))) ?_
          refine dopx_ef _ rfl rfl (ex1 4 rfl (vef_apL (f := T_Span.enc) (l := [x10.2.Span]) (ys := s7.1) rfl rfl (getO_N rfl rfl) rfl (src_vs rfl) te_42 ts_24 tb_24 (by decide) tz_24 rfl h18 (setO_N rfl rfl)) ex0) ?_
          refine dopx_rd _ rfl rfl (rx1 (VRd.ntl (rd_asL rfl)) rx0) ?_
          refine dopx_rd _ rfl rfl (rx1 (VRd.ntl (rd_asL rfl)) rx0) ?_
          refine dopx_nil ?_
          refine vwp_region ?_
          refine vops_rd (rd_mvI rfl) rfl ?_
          refine vops_rd (rd_sub rfl rfl rfl) rfl ?_
          refine vops_rd (rd_asI rfl) rfl ?_
          refine vops_nil ?_
          obtain rfl := Option.some.inj hF
          refine onlyE ?_
          refine Weak.trans (weak_freezeN (E' := [(5, .ptr (low.length + 0) 0 0 0), (6, .sl (low.length + 1) (0 + 1) 0 (x15).length), (7, .vs 2 (List.map T_Span.enc x17)), (8, .int .i64 (IntKind.i64.wrap (x3 - 40))), (9, .bool o12), (10, .int .i64 (IntKind.i64.wrap (s7.2.2.1 - 1)))]) (loc1 := [⟨51, 2, [.agg [.vs 1 (List.map (PV.int .u8) x10.1.l), .int .i64 x10.1.at_]], 0⟩, ⟨24, 2, List.map T_Span.enc x15, 0 + 1⟩, ⟨24, 2, [.agg [.int .i64 x10.2.Span.Low, .int .i64 x10.2.Span.High]], 0⟩, ⟨24, 2, [], (1 + 1) + 1⟩]) rfl 3 rfl (lt_map T_Span.enc_lt) ⟨cv_same rfl, cv_same rfl, cv_sl rfl rfl rfl (full_take rfl), cv_same rfl, cv_same rfl, cv_same rfl, trivial⟩ ⟨.refl _, .refl _, .refl _, .refl _, trivial⟩) ?_
          exact weak_pick rfl [(0, 0), (1, 0 + 1)] (by decide) ⟨rn_ptr 0 0 rfl rfl, rn_sl 1 1 rfl rfl, rn_low rfl (.vs _ _), rn_low rfl (.int _ _), rn_low rfl (.bool _), rn_low rfl (.int _ _), trivial⟩ ⟨⟨_, rfl, rfl, .same _ _ _ _ (ltObj_es ⟨(lt_agg ⟨.vs _ _, .int _ _, trivial⟩), trivial⟩)⟩, ⟨_, rfl, rfl, .same _ _ _ _ (ltObj_map T_Span.enc_lt)⟩, trivial⟩
      · have hF := bifF c9 hF
        refine vwp_exit ?_
        obtain rfl := Option.some.inj hF
        refine onlyE ?_
        exact weak_pick rfl [(1, 0)] (by decide) ⟨rn_sl 0 1 rfl rfl, rn_low rfl (.vs _ _), rn_low rfl (.int _ _), rn_low rfl (.bool _), trivial⟩ ⟨⟨_, rfl, rfl, .same _ _ _ _ (ltObj_map T_Span.enc_lt)⟩, trivial⟩
    · rintro _ _ _ _ ⟨rfl, hw⟩
      refine ⟨_, _, _, hw, ?_⟩
      refine vwp_seq ?_
      refine vwp_region ?_
      obtain ⟨x19, h20, hF⟩ := bnd hF
      refine vops_rd (rd_mvL rfl) rfl ?_
      refine vops_efE (vef_callB (vs := [.vs 2 (List.map T_Span.enc o8.2.2)]) rfl Try.call22 ⟨view_sl rfl (getO_N rfl rfl) rfl rfl (lt_map T_Span.enc_lt) (full_take rfl), trivial⟩ ((F_window_Meet_ok h20 []).mono fun _ _ h => h.1) (sc_tup ⟨(sc_agg ⟨(.int _ _), (.int _ _), trivial⟩), (.bool _), trivial⟩)) rfl ?_
      refine vops_rd (rd_mvT rfl) rfl ?_
      refine vops_rd (rd_extract rfl rfl) rfl ?_
      refine vops_rd (rd_extract rfl rfl) rfl ?_
      refine vops_efE (vef_allocN rfl rfl tz_24 rfl rfl (Nat.succ_pos _) rfl) rfl ?_
      refine vops_efE (vef_store (p := .agg [.int .i64 x19.1.Low, .int .i64 x19.1.High]) (e' := .agg [.int .i64 x19.1.Low, .int .i64 x19.1.High]) rfl (getO_N rfl rfl) rfl rfl ts_24 rfl (nt_ne rfl) rfl (Nat.le_of_ble_eq_true rfl) rfl (setO_N rfl rfl)) rfl ?_
      refine vops_rd (rd_asB rfl) rfl ?_
      refine vops_nil ?_
      refine vwp_seq ?_
      refine vwp_region ?_
      obtain ⟨x21, h22, hF⟩ := bnd hF
      refine vops_rd (rd_mvV rfl) rfl ?_
      refine vops_efE (vef_callP rfl Try.call22 (F_window_Meet_ok h22 _)) rfl ?_
      refine vops_rd (rd_mvT rfl) rfl ?_
      refine vops_rd (rd_extract rfl rfl) rfl ?_
      refine vops_rd (rd_extract rfl rfl) rfl ?_
      refine vops_efE (vef_allocN rfl rfl tz_24 rfl rfl (Nat.succ_pos _) rfl) rfl ?_
      refine vops_efE (vef_store (p := .agg [.int .i64 x21.1.Low, .int .i64 x21.1.High]) (e' := .agg [.int .i64 x21.1.Low, .int .i64 x21.1.High]) rfl (getO_N rfl rfl) rfl rfl ts_24 rfl (nt_ne rfl) rfl (Nat.le_of_ble_eq_true rfl) rfl (setO_N rfl rfl)) rfl ?_
      refine vops_rd (rd_asB rfl) rfl ?_
      refine vops_nil ?_
      refine vwp_seq ?_
      refine vwp_seq ?_
      obtain ⟨o23, ho23, hF⟩ := bnd hF
      refine vwp_monoW (Q' := (fun o23 => OnlyE .normal (fun E' lw lc => Weak E' lw lc [(6, .sl (low.length + 0) 0 0 (o8.2.2).length), (101, .bool o23)] low [⟨24, 2, List.map T_Span.enc o8.2.2, 0⟩])) o23) ?_ ?_
      · replace hF := ho23
        refine vwp_region ?_
        rcases Bool.eq_false_or_eq_true (!((x19.1.Low == x21.1.Low) && ((x19.1.High == x21.1.High) && true))) with c24 | c24
        · have hF := bifT c24 hF
          refine vops_rd (rd_loadN (ds := [.int .i64 x19.1.Low, .int .i64 x19.1.High]) rfl (getO_N rfl rfl) rfl ta_24 ts_24 rfl rfl rfl) rfl ?_
          refine vops_rd (rd_loadN (ds := [.int .i64 x21.1.Low, .int .i64 x21.1.High]) rfl (getO_N rfl rfl) rfl ta_24 ts_24 rfl rfl rfl) rfl ?_
          refine vops_rd (rd_neqV (tab := eqTab) eqTab_ok rfl rfl eqg_24 rfl) rfl ?_
          refine vops_rd (rd_mvB rfl) rfl ?_
          refine vops_skip rfl rfl (neT c24) rfl ?_
          refine vops_skip rfl rfl (neT c24) rfl ?_
          refine vops_skip rfl rfl (neT c24) rfl ?_
          refine vops_rd (rd_pickT (congrArg PV.bool c24) rfl) rfl ?_
          refine vops_rd (rd_mvB rfl) rfl ?_
          refine vops_skip rfl rfl (by decide) rfl ?_
          refine vops_skip rfl rfl (by decide) rfl ?_
          refine vops_skip rfl rfl (by decide) rfl ?_
          refine vops_skip rfl rfl (by decide) rfl ?_
          refine vops_skip rfl rfl (by decide) rfl ?_
          refine vops_rd (rd_pickT rfl rfl) rfl ?_
          refine vops_rd (rd_mvB rfl) rfl ?_
          refine vops_skip rfl rfl (by decide) rfl ?_
          refine vops_skip rfl rfl (by decide) rfl ?_
          refine vops_skipX rfl rfl rfl ?_
          refine vops_skipX rfl rfl rfl ?_
          refine vops_skipX rfl rfl rfl ?_
          refine vops_skipX rfl rfl rfl ?_
          refine vops_skipX rfl rfl rfl ?_
          refine vops_skipX rfl rfl rfl ?_
          refine vops_skipX rfl rfl rfl ?_
          refine vops_skipX rfl rfl rfl ?_
          refine vops_skipX rfl rfl rfl ?_
          refine vops_skipX rfl rfl rfl ?_
          refine vops_skipX rfl rfl rfl ?_
          refine vops_skipX rfl rfl rfl ?_
          refine vops_skip rfl rfl (by decide) rfl ?_
          refine vops_rd (rd_pickT rfl rfl) rfl ?_
          refine vops_rd (rd_mvB rfl) rfl ?_
          refine vops_skip rfl rfl (by decide) rfl ?_
          refine vops_skip rfl rfl (by decide) rfl ?_
          refine vops_skip rfl rfl (by decide) rfl ?_
          refine vops_skipX rfl rfl rfl ?_
          refine vops_skip rfl rfl (by decide) rfl ?_
          refine vops_rd (rd_pickT rfl rfl) rfl ?_
          refine vops_nil ?_
          obtain rfl := Option.some.inj hF
          refine onlyE ?_
          exact weak_pick rfl [(0, 0)] (by decide) ⟨rn_sl 0 0 rfl rfl, rn_low rfl (.bool _), trivial⟩ ⟨⟨_, rfl, rfl, .same _ _ _ _ (ltObj_map T_Span.enc_lt)⟩, trivial⟩
        · have hF := bifF c24 hF
          rcases Bool.eq_false_or_eq_true (x19.2 != x21.2) with c25 | c25
          · have hF := bifT c25 hF
            refine vops_rd (rd_loadN (ds := [.int .i64 x19.1.Low, .int .i64 x19.1.High]) rfl (getO_N rfl rfl) rfl ta_24 ts_24 rfl rfl rfl) rfl ?_
            refine vops_rd (rd_loadN (ds := [.int .i64 x21.1.Low, .int .i64 x21.1.High]) rfl (getO_N rfl rfl) rfl ta_24 ts_24 rfl rfl rfl) rfl ?_
            refine vops_rd (rd_neqV (tab := eqTab) eqTab_ok rfl rfl eqg_24 rfl) rfl ?_
            refine vops_rd (rd_mvB rfl) rfl ?_
            refine vops_take rfl (congrArg PV.bool c24) ?_
            refine vops_rd (rd_mvB rfl) rfl ?_
            refine vops_take rfl (congrArg PV.bool c24) ?_
            refine vops_rd (rd_mvB rfl) rfl ?_
            refine vops_take rfl (congrArg PV.bool c24) ?_
            refine vops_rd (rd_neqB rfl rfl tbo_4) rfl ?_
            refine vops_rd (rd_pickF (congrArg PV.bool c24) rfl) rfl ?_
            refine vops_rd (rd_mvB rfl) rfl ?_
            refine vops_skip rfl rfl (neT c25) rfl ?_
            refine vops_skip rfl rfl (neT c25) rfl ?_
            refine vops_skip rfl rfl (neT c25) rfl ?_
            refine vops_skip rfl rfl (neT c25) rfl ?_
            refine vops_skip rfl rfl (neT c25) rfl ?_
            refine vops_rd (rd_pickT (congrArg PV.bool c25) rfl) rfl ?_
            refine vops_rd (rd_mvB rfl) rfl ?_
            refine vops_skip rfl rfl (by decide) rfl ?_
            refine vops_skip rfl rfl (by decide) rfl ?_
            refine vops_skipX rfl rfl rfl ?_
            refine vops_skipX rfl rfl rfl ?_
            refine vops_skipX rfl rfl rfl ?_
            refine vops_skipX rfl rfl rfl ?_
            refine vops_skipX rfl rfl rfl ?_
            refine vops_skipX rfl rfl rfl ?_
            refine vops_skipX rfl rfl rfl ?_
            refine vops_skipX rfl rfl rfl ?_
            refine vops_skipX rfl rfl rfl ?_
            refine vops_skipX rfl rfl rfl ?_
            refine vops_skipX rfl rfl rfl ?_
            refine vops_skipX rfl rfl rfl ?_
            refine vops_skip rfl rfl (by decide) rfl ?_
            refine vops_rd (rd_pickT rfl rfl) rfl ?_
            refine vops_rd (rd_mvB rfl) rfl ?_
            refine vops_skip rfl rfl (by decide) rfl ?_
            refine vops_skip rfl rfl (by decide) rfl ?_
            refine vops_skip rfl rfl (by decide) rfl ?_
            refine vops_skipX rfl rfl rfl ?_
            refine vops_skip rfl rfl (by decide) rfl ?_
            refine vops_rd (rd_pickT rfl rfl) rfl ?_
            refine vops_nil ?_
            obtain rfl := Option.some.inj hF
            refine onlyE ?_
            exact weak_pick rfl [(0, 0)] (by decide) ⟨rn_sl 0 0 rfl rfl, rn_low rfl (.bool _), trivial⟩ ⟨⟨_, rfl, rfl, .same _ _ _ _ (ltObj_map T_Span.enc_lt)⟩, trivial⟩
          · have hF := bifF c25 hF
            obtain ⟨x26, h27, hF⟩ := bnd hF
            obtain ⟨x28, h29, hF⟩ := bnd hF
            rcases Bool.eq_false_or_eq_true (!((x26.Low == x28.Low) && ((x26.High == x28.High) && true))) with c30 | c30
            · have hF := bifT c30 hF
              refine vops_rd (rd_loadN (ds := [.int .i64 x19.1.Low, .int .i64 x19.1.High]) rfl (getO_N rfl rfl) rfl ta_24 ts_24 rfl rfl rfl) rfl ?_
              refine vops_rd (rd_loadN (ds := [.int .i64 x21.1.Low, .int .i64 x21.1.High]) rfl (getO_N rfl rfl) rfl ta_24 ts_24 rfl rfl rfl) rfl ?_
              refine vops_rd (rd_neqV (tab := eqTab) eqTab_ok rfl rfl eqg_24 rfl) rfl ?_
              refine vops_rd (rd_mvB rfl) rfl ?_
              refine vops_take rfl (congrArg PV.bool c24) ?_
              refine vops_rd (rd_mvB rfl) rfl ?_
              refine vops_take rfl (congrArg PV.bool c24) ?_
              refine vops_rd (rd_mvB rfl) rfl ?_
              refine vops_take rfl (congrArg PV.bool c24) ?_
              refine vops_rd (rd_neqB rfl rfl tbo_4) rfl ?_
              refine vops_rd (rd_pickF (congrArg PV.bool c24) rfl) rfl ?_
              refine vops_rd (rd_mvB rfl) rfl ?_
              refine vops_take rfl (congrArg PV.bool c25) ?_
              refine vops_rd (rd_mvL rfl) rfl ?_
              refine vops_take rfl (congrArg PV.bool c25) ?_
              refine vops_efE (vef_callB (vs := [.vs 2 (List.map T_Span.enc o8.2.2)]) rfl Try.call24 ⟨view_sl rfl (getO_N rfl rfl) rfl rfl (lt_map T_Span.enc_lt) (full_take rfl), trivial⟩ ((F_window_Hull_ok h27 []).mono fun _ _ h => h.1) (sc_agg ⟨(.int _ _), (.int _ _), trivial⟩)) rfl ?_
              refine vops_take rfl (congrArg PV.bool c25) ?_
              refine vops_rd (rd_mvV rfl) rfl ?_
              refine vops_take rfl (congrArg PV.bool c25) ?_
              refine vops_efE (vef_callP rfl Try.call24 (F_window_Hull_ok h29 _)) rfl ?_
              refine vops_take rfl (congrArg PV.bool c25) ?_
              refine vops_rd (rd_neqV (tab := eqTab) eqTab_ok rfl rfl eqg_24 rfl) rfl ?_
              refine vops_rd (rd_pickF (congrArg PV.bool c25) rfl) rfl ?_
              refine vops_rd (rd_mvB rfl) rfl ?_
              refine vops_skip rfl rfl (neT c30) rfl ?_
              refine vops_skip rfl rfl (neT c30) rfl ?_
              refine vops_skipX rfl rfl rfl ?_
              refine vops_skipX rfl rfl rfl ?_
              refine vops_skipX rfl rfl rfl ?_
              refine vops_skipX rfl rfl rfl ?_
              refine vops_skipX rfl rfl rfl ?_
              refine vops_skipX rfl rfl rfl ?_
              refine vops_skipX rfl rfl rfl ?_
              refine vops_skipX rfl rfl rfl ?_
              refine vops_skipX rfl rfl rfl ?_
              refine vops_skipX rfl rfl rfl ?_
              refine vops_skipX rfl rfl rfl ?_
              refine vops_skipX rfl rfl rfl ?_
              refine vops_skip rfl rfl (neT c30) rfl ?_
              refine vops_rd (rd_pickT (congrArg PV.bool c30) rfl) rfl ?_
              refine vops_rd (rd_mvB rfl) rfl ?_
              refine vops_skip rfl rfl (by decide) rfl ?_
              refine vops_skip rfl rfl (by decide) rfl ?_
              refine vops_skip rfl rfl (by decide) rfl ?_
              refine vops_skipX rfl rfl rfl ?_
              refine vops_skip rfl rfl (by decide) rfl ?_
              refine vops_rd (rd_pickT rfl rfl) rfl ?_
              refine vops_nil ?_
              obtain rfl := Option.some.inj hF
              refine onlyE ?_
              exact weak_pick rfl [(0, 0)] (by decide) ⟨rn_sl 0 0 rfl rfl, rn_low rfl (.bool _), trivial⟩ ⟨⟨_, rfl, rfl, .same _ _ _ _ (ltObj_map T_Span.enc_lt)⟩, trivial⟩
            · have hF := bifF c30 hF
              rcases Bool.eq_false_or_eq_true x19.2 with c31 | c31
              · have hF := bifT c31 hF
                rcases Bool.eq_false_or_eq_true (decide (x19.1.Low ≤ (IntKind.i64.wrap (x3 - 40)))) with c32 | c32
                · have hF := bifT c32 hF
                  rcases Bool.eq_false_or_eq_true (o8.2.1 != (decide ((IntKind.i64.wrap (x3 - 40)) ≤ x19.1.High))) with c33 | c33
                  · have hF := bifT c33 hF
                    refine vops_rd (rd_loadN (ds := [.int .i64 x19.1.Low, .int .i64 x19.1.High]) rfl (getO_N rfl rfl) rfl ta_24 ts_24 rfl rfl rfl) rfl ?_
                    refine vops_rd (rd_loadN (ds := [.int .i64 x21.1.Low, .int .i64 x21.1.High]) rfl (getO_N rfl rfl) rfl ta_24 ts_24 rfl rfl rfl) rfl ?_
                    refine vops_rd (rd_neqV (tab := eqTab) eqTab_ok rfl rfl eqg_24 rfl) rfl ?_
                    refine vops_rd (rd_mvB rfl) rfl ?_
                    refine vops_take rfl (congrArg PV.bool c24) ?_
                    refine vops_rd (rd_mvB rfl) rfl ?_
                    refine vops_take rfl (congrArg PV.bool c24) ?_
                    refine vops_rd (rd_mvB rfl) rfl ?_
                    refine vops_take rfl (congrArg PV.bool c24) ?_
                    refine vops_rd (rd_neqB rfl rfl tbo_4) rfl ?_
                    refine vops_rd (rd_pickF (congrArg PV.bool c24) rfl) rfl ?_
                    refine vops_rd (rd_mvB rfl) rfl ?_
                    refine vops_take rfl (congrArg PV.bool c25) ?_
                    refine vops_rd (rd_mvL rfl) rfl ?_
                    refine vops_take rfl (congrArg PV.bool c25) ?_
                    refine vops_efE (vef_callB (vs := [.vs 2 (List.map T_Span.enc o8.2.2)]) rfl Try.call24 ⟨view_sl rfl (getO_N rfl rfl) rfl rfl (lt_map T_Span.enc_lt) (full_take rfl), trivial⟩ ((F_window_Hull_ok h27 []).mono fun _ _ h => h.1) (sc_agg ⟨(.int _ _), (.int _ _), trivial⟩)) rfl ?_
                    refine vops_take rfl (congrArg PV.bool c25) ?_
                    refine vops_rd (rd_mvV rfl) rfl ?_
                    refine vops_take rfl (congrArg PV.bool c25) ?_
                    refine vops_efE (vef_callP rfl Try.call24 (F_window_Hull_ok h29 _)) rfl ?_
                    refine vops_take rfl (congrArg PV.bool c25) ?_
                    refine vops_rd (rd_neqV (tab := eqTab) eqTab_ok rfl rfl eqg_24 rfl) rfl ?_
                    refine vops_rd (rd_pickF (congrArg PV.bool c25) rfl) rfl ?_
                    refine vops_rd (rd_mvB rfl) rfl ?_
                    refine vops_take rfl (congrArg PV.bool c30) ?_
                    refine vops_rd (rd_mvB rfl) rfl ?_
                    refine vops_take rfl (congrArg PV.bool c30) ?_
                    refine vops_rd (rd_mvB rfl) rfl ?_
                    refine vops_take rfl (congrArg PV.bool c31) ?_
                    refine vops_rd (rd_mvB rfl) rfl ?_
                    refine vops_take rfl (congrArg PV.bool c31) ?_
                    refine vops_rd (rd_fieldAddr rfl tf_24_0 ts_3 (by decide)) rfl ?_
                    refine vops_take rfl (congrArg PV.bool c31) ?_
                    refine vops_rd (rd_load1 rfl (getO_N rfl rfl) rfl ta_3 rfl) rfl ?_
                    refine vops_take rfl (congrArg PV.bool c31) ?_
                    refine vops_rd (rd_mvI rfl) rfl ?_
                    refine vops_take rfl (congrArg PV.bool c31) ?_
                    refine vops_rd (rd_leq rfl rfl) rfl ?_
                    refine vops_take rfl (congrArg PV.bool c31) ?_
                    refine vops_rd (rd_mvB rfl) rfl ?_
                    refine vops_take rfl (congrArg PV.bool c32) ?_
                    refine vops_rd (rd_mvI rfl) rfl ?_
                    refine vops_take rfl (congrArg PV.bool c32) ?_
                    refine vops_rd (rd_fieldAddr rfl tf_24_1 ts_3 (by decide)) rfl ?_
                    refine vops_take rfl (congrArg PV.bool c32) ?_
                    refine vops_rd (rd_load1 rfl (getO_N rfl rfl) rfl ta_3 rfl) rfl ?_
                    refine vops_take rfl (congrArg PV.bool c32) ?_
                    refine vops_rd (rd_leq rfl rfl) rfl ?_
                    refine vops_take rfl (congrArg PV.bool c31) ?_
                    refine vops_rd (rd_pickT (congrArg PV.bool c32) rfl) rfl ?_
                    refine vops_take rfl (congrArg PV.bool c31) ?_
                    refine vops_rd (rd_neqB rfl rfl tbo_4) rfl ?_
                    refine vops_take rfl (congrArg PV.bool c30) ?_
                    refine vops_rd (rd_pickT (congrArg PV.bool c31) rfl) rfl ?_
                    refine vops_rd (rd_pickF (congrArg PV.bool c30) rfl) rfl ?_
                    refine vops_rd (rd_mvB rfl) rfl ?_
                    refine vops_skip rfl rfl (neT c33) rfl ?_
                    refine vops_skip rfl rfl (neT c33) rfl ?_
                    refine vops_skip rfl rfl (neT c33) rfl ?_
                    refine vops_skipX rfl rfl rfl ?_
                    refine vops_skip rfl rfl (neT c33) rfl ?_
                    refine vops_rd (rd_pickT (congrArg PV.bool c33) rfl) rfl ?_
                    refine vops_nil ?_
                    obtain rfl := Option.some.inj hF
                    refine onlyE ?_
                    exact weak_pick rfl [(0, 0)] (by decide) ⟨rn_sl 0 0 rfl rfl, rn_low rfl (.bool _), trivial⟩ ⟨⟨_, rfl, rfl, .same _ _ _ _ (ltObj_map T_Span.enc_lt)⟩, trivial⟩
                  · have hF := bifF c33 hF
                    rcases Bool.eq_false_or_eq_true (!x19.2) with c34 | c34
                    · have hF := bifT c34 hF
                      refine vops_rd (rd_loadN (ds := [.int .i64 x19.1.Low, .int .i64 x19.1.High]) rfl (getO_N rfl rfl) rfl ta_24 ts_24 rfl rfl rfl) rfl ?_
                      refine vops_rd (rd_loadN (ds := [.int .i64 x21.1.Low, .int .i64 x21.1.High]) rfl (getO_N rfl rfl) rfl ta_24 ts_24 rfl rfl rfl) rfl ?_
                      refine vops_rd (rd_neqV (tab := eqTab) eqTab_ok rfl rfl eqg_24 rfl) rfl ?_
                      refine vops_rd (rd_mvB rfl) rfl ?_
                      refine vops_take rfl (congrArg PV.bool c24) ?_
                      refine vops_rd (rd_mvB rfl) rfl ?_
                      refine vops_take rfl (congrArg PV.bool c24) ?_
                      refine vops_rd (rd_mvB rfl) rfl ?_
                      refine vops_take rfl (congrArg PV.bool c24) ?_
                      refine vops_rd (rd_neqB rfl rfl tbo_4) rfl ?_
                      refine vops_rd (rd_pickF (congrArg PV.bool c24) rfl) rfl ?_
                      refine vops_rd (rd_mvB rfl) rfl ?_
                      refine vops_take rfl (congrArg PV.bool c25) ?_
                      refine vops_rd (rd_mvL rfl) rfl ?_
                      refine vops_take rfl (congrArg PV.bool c25) ?_
                      refine vops_efE (vef_callB (vs := [.vs 2 (List.map T_Span.enc o8.2.2)]) rfl Try.call24 ⟨view_sl rfl (getO_N rfl rfl) rfl rfl (lt_map T_Span.enc_lt) (full_take rfl), trivial⟩ ((F_window_Hull_ok h27 []).mono fun _ _ h => h.1) (sc_agg ⟨(.int _ _), (.int _ _), trivial⟩)) rfl ?_
                      refine vops_take rfl (congrArg PV.bool c25) ?_
                      refine vops_rd (rd_mvV rfl) rfl ?_
                      refine vops_take rfl (congrArg PV.bool c25) ?_
                      refine vops_efE (vef_callP rfl Try.call24 (F_window_Hull_ok h29 _)) rfl ?_
                      refine vops_take rfl (congrArg PV.bool c25) ?_
                      refine vops_rd (rd_neqV (tab := eqTab) eqTab_ok rfl rfl eqg_24 rfl) rfl ?_
                      refine vops_rd (rd_pickF (congrArg PV.bool c25) rfl) rfl ?_
                      refine vops_rd (rd_mvB rfl) rfl ?_
                      refine vops_take rfl (congrArg PV.bool c30) ?_
                      refine vops_rd (rd_mvB rfl) rfl ?_
                      refine vops_take rfl (congrArg PV.bool c30) ?_
                      refine vops_rd (rd_mvB rfl) rfl ?_
                      refine vops_take rfl (congrArg PV.bool c31) ?_
                      refine vops_rd (rd_mvB rfl) rfl ?_
                      refine vops_take rfl (congrArg PV.bool c31) ?_
                      refine vops_rd (rd_fieldAddr rfl tf_24_0 ts_3 (by decide)) rfl ?_
                      refine vops_take rfl (congrArg PV.bool c31) ?_
                      refine vops_rd (rd_load1 rfl (getO_N rfl rfl) rfl ta_3 rfl) rfl ?_
                      refine vops_take rfl (congrArg PV.bool c31) ?_
                      refine vops_rd (rd_mvI rfl) rfl ?_
                      refine vops_take rfl (congrArg PV.bool c31) ?_
                      refine vops_rd (rd_leq rfl rfl) rfl ?_
                      refine vops_take rfl (congrArg PV.bool c31) ?_
                      refine vops_rd (rd_mvB rfl) rfl ?_
                      refine vops_take rfl (congrArg PV.bool c32) ?_
                      refine vops_rd (rd_mvI rfl) rfl ?_
                      refine vops_take rfl (congrArg PV.bool c32) ?_
                      refine vops_rd (rd_fieldAddr rfl tf_24_1 ts_3 (by decide)) rfl ?_
                      refine vops_take rfl (congrArg PV.bool c32) ?_
                      refine vops_rd (rd_load1 rfl (getO_N rfl rfl) rfl ta_3 rfl) rfl ?_
                      refine vops_take rfl (congrArg PV.bool c32) ?_
                      refine vops_rd (rd_leq rfl rfl) rfl ?_
                      refine vops_take rfl (congrArg PV.bool c31) ?_
                      refine vops_rd (rd_pickT (congrArg PV.bool c32) rfl) rfl ?_
                      refine vops_take rfl (congrArg PV.bool c31) ?_
                      refine vops_rd (rd_neqB rfl rfl tbo_4) rfl ?_
                      refine vops_take rfl (congrArg PV.bool c30) ?_
                      refine vops_rd (rd_pickT (congrArg PV.bool c31) rfl) rfl ?_
                      refine vops_rd (rd_pickF (congrArg PV.bool c30) rfl) rfl ?_
                      refine vops_rd (rd_mvB rfl) rfl ?_
                      refine vops_take rfl (congrArg PV.bool c33) ?_
                      refine vops_rd (rd_mvB rfl) rfl ?_
                      refine vops_take rfl (congrArg PV.bool c33) ?_
                      refine vops_rd (rd_not rfl) rfl ?_
                      refine vops_take rfl (congrArg PV.bool c33) ?_
                      refine vops_rd (rd_mvB rfl) rfl ?_
                      refine vops_take rfl (congrArg PV.bool c34) ?_
                      refine vops_rd (rd_mvB rfl) rfl ?_
                      refine vops_take rfl (congrArg PV.bool c33) ?_
                      refine vops_rd (rd_pickT (congrArg PV.bool c34) rfl) rfl ?_
                      refine vops_rd (rd_pickF (congrArg PV.bool c33) rfl) rfl ?_
                      refine vops_nil ?_
                      obtain rfl := Option.some.inj hF
                      refine onlyE ?_
                      exact weak_pick rfl [(0, 0)] (by decide) ⟨rn_sl 0 0 rfl rfl, rn_low rfl (.bool _), trivial⟩ ⟨⟨_, rfl, rfl, .same _ _ _ _ (ltObj_map T_Span.enc_lt)⟩, trivial⟩
                    · have hF := bifF c34 hF
                      refine vops_rd (rd_loadN (ds := [.int .i64 x19.1.Low, .int .i64 x19.1.High]) rfl (getO_N rfl rfl) rfl ta_24 ts_24 rfl rfl rfl) rfl ?_
                      refine vops_rd (rd_loadN (ds := [.int .i64 x21.1.Low, .int .i64 x21.1.High]) rfl (getO_N rfl rfl) rfl ta_24 ts_24 rfl rfl rfl) rfl ?_
                      refine vops_rd (rd_neqV (tab := eqTab) eqTab_ok rfl rfl eqg_24 rfl) rfl ?_
                      refine vops_rd (rd_mvB rfl) rfl ?_
                      refine vops_take rfl (congrArg PV.bool c24) ?_
                      refine vops_rd (rd_mvB rfl) rfl ?_
                      refine vops_take rfl (congrArg PV.bool c24) ?_
                      refine vops_rd (rd_mvB rfl) rfl ?_
                      refine vops_take rfl (congrArg PV.bool c24) ?_
                      refine vops_rd (rd_neqB rfl rfl tbo_4) rfl ?_
                      refine vops_rd (rd_pickF (congrArg PV.bool c24) rfl) rfl ?_
                      refine vops_rd (rd_mvB rfl) rfl ?_
                      refine vops_take rfl (congrArg PV.bool c25) ?_
                      refine vops_rd (rd_mvL rfl) rfl ?_
                      refine vops_take rfl (congrArg PV.bool c25) ?_
                      refine vops_efE (vef_callB (vs := [.vs 2 (List.map T_Span.enc o8.2.2)]) rfl Try.call24 ⟨view_sl rfl (getO_N rfl rfl) rfl rfl (lt_map T_Span.enc_lt) (full_take rfl), trivial⟩ ((F_window_Hull_ok h27 []).mono fun _ _ h => h.1) (sc_agg ⟨(.int _ _), (.int _ _), trivial⟩)) rfl ?_
                      refine vops_take rfl (congrArg PV.bool c25) ?_
                      refine vops_rd (rd_mvV rfl) rfl ?_
                      refine vops_take rfl (congrArg PV.bool c25) ?_
                      refine vops_efE (vef_callP rfl Try.call24 (F_window_Hull_ok h29 _)) rfl ?_
                      refine vops_take rfl (congrArg PV.bool c25) ?_
                      refine vops_rd (rd_neqV (tab := eqTab) eqTab_ok rfl rfl eqg_24 rfl) rfl ?_
                      refine vops_rd (rd_pickF (congrArg PV.bool c25) rfl) rfl ?_
                      refine vops_rd (rd_mvB rfl) rfl ?_
                      refine vops_take rfl (congrArg PV.bool c30) ?_
                      refine vops_rd (rd_mvB rfl) rfl ?_
                      refine vops_take rfl (congrArg PV.bool c30) ?_
                      refine vops_rd (rd_mvB rfl) rfl ?_
                      refine vops_take rfl (congrArg PV.bool c31) ?_
                      refine vops_rd (rd_mvB rfl) rfl ?_
                      refine vops_take rfl (congrArg PV.bool c31) ?_
                      refine vops_rd (rd_fieldAddr rfl tf_24_0 ts_3 (by decide)) rfl ?_
                      refine vops_take rfl (congrArg PV.bool c31) ?_
                      refine vops_rd (rd_load1 rfl (getO_N rfl rfl) rfl ta_3 rfl) rfl ?_
                      refine vops_take rfl (congrArg PV.bool c31) ?_
                      refine vops_rd (rd_mvI rfl) rfl ?_
                      refine vops_take rfl (congrArg PV.bool c31) ?_
                      refine vops_rd (rd_leq rfl rfl) rfl ?_
                      refine vops_take rfl (congrArg PV.bool c31) ?_
                      refine vops_rd (rd_mvB rfl) rfl ?_
                      refine vops_take rfl (congrArg PV.bool c32) ?_
                      refine vops_rd (rd_mvI rfl) rfl ?_
                      refine vops_take rfl (congrArg PV.bool c32) ?_
                      refine vops_rd (rd_fieldAddr rfl tf_24_1 ts_3 (by decide)) rfl ?_
                      refine vops_take rfl (congrArg PV.bool c32) ?_
                      refine vops_rd (rd_load1 rfl (getO_N rfl rfl) rfl ta_3 rfl) rfl ?_
                      refine vops_take rfl (congrArg PV.bool c32) ?_
                      refine vops_rd (rd_leq rfl rfl) rfl ?_
                      refine vops_take rfl (congrArg PV.bool c31) ?_
                      refine vops_rd (rd_pickT (congrArg PV.bool c32) rfl) rfl ?_
                      refine vops_take rfl (congrArg PV.bool c31) ?_
                      refine vops_rd (rd_neqB rfl rfl tbo_4) rfl ?_
                      refine vops_take rfl (congrArg PV.bool c30) ?_
                      refine vops_rd (rd_pickT (congrArg PV.bool c31) rfl) rfl ?_
                      refine vops_rd (rd_pickF (congrArg PV.bool c30) rfl) rfl ?_
                      refine vops_rd (rd_mvB rfl) rfl ?_
                      refine vops_take rfl (congrArg PV.bool c33) ?_
                      refine vops_rd (rd_mvB rfl) rfl ?_
                      refine vops_take rfl (congrArg PV.bool c33) ?_
                      refine vops_rd (rd_not rfl) rfl ?_
                      refine vops_take rfl (congrArg PV.bool c33) ?_
                      refine vops_rd (rd_mvB rfl) rfl ?_
                      refine vops_skip rfl rfl (neF c34) rfl ?_
                      refine vops_take rfl (congrArg PV.bool c33) ?_
                      refine vops_rd (rd_pickF (congrArg PV.bool c34) rfl) rfl ?_
                      refine vops_rd (rd_pickF (congrArg PV.bool c33) rfl) rfl ?_
                      refine vops_nil ?_
                      obtain rfl := Option.some.inj hF
                      refine onlyE ?_
                      exact weak_pick rfl [(0, 0)] (by decide) ⟨rn_sl 0 0 rfl rfl, rn_low rfl (.bool _), trivial⟩ ⟨⟨_, rfl, rfl, .same _ _ _ _ (ltObj_map T_Span.enc_lt)⟩, trivial⟩
                · have hF := bifF c32 hF
                  rcases Bool.eq_false_or_eq_true (o8.2.1 != false) with c35 | c35
                  · have hF := bifT c35 hF
                    refine vops_rd (rd_loadN (ds := [.int .i64 x19.1.Low, .int .i64 x19.1.High]) rfl (getO_N rfl rfl) rfl ta_24 ts_24 rfl rfl rfl) rfl ?_
                    refine vops_rd (rd_loadN (ds := [.int .i64 x21.1.Low, .int .i64 x21.1.High]) rfl (getO_N rfl rfl) rfl ta_24 ts_24 rfl rfl rfl) rfl ?_
                    refine vops_rd (rd_neqV (tab := eqTab) eqTab_ok rfl rfl eqg_24 rfl) rfl ?_
                    refine vops_rd (rd_mvB rfl) rfl ?_
                    refine vops_take rfl (congrArg PV.bool c24) ?_
                    refine vops_rd (rd_mvB rfl) rfl ?_
                    refine vops_take rfl (congrArg PV.bool c24) ?_
                    refine vops_rd (rd_mvB rfl) rfl ?_
                    refine vops_take rfl (congrArg PV.bool c24) ?_
                    refine vops_rd (rd_neqB rfl rfl tbo_4) rfl ?_
                    refine vops_rd (rd_pickF (congrArg PV.bool c24) rfl) rfl ?_
                    refine vops_rd (rd_mvB rfl) rfl ?_
                    refine vops_take rfl (congrArg PV.bool c25) ?_
                    refine vops_rd (rd_mvL rfl) rfl ?_
                    refine vops_take rfl (congrArg PV.bool c25) ?_
                    refine vops_efE (vef_callB (vs := [.vs 2 (List.map T_Span.enc o8.2.2)]) rfl Try.call24 ⟨view_sl rfl (getO_N rfl rfl) rfl rfl (lt_map T_Span.enc_lt) (full_take rfl), trivial⟩ ((F_window_Hull_ok h27 []).mono fun _ _ h => h.1) (sc_agg ⟨(.int _ _), (.int _ _), trivial⟩)) rfl ?_
                    refine vops_take rfl (congrArg PV.bool c25) ?_
                    refine vops_rd (rd_mvV rfl) rfl ?_
                    refine vops_take rfl (congrArg PV.bool c25) ?_
                    refine vops_efE (vef_callP rfl Try.call24 (F_window_Hull_ok h29 _)) rfl ?_
                    refine vops_take rfl (congrArg PV.bool c25) ?_
                    refine vops_rd (rd_neqV (tab := eqTab) eqTab_ok rfl rfl eqg_24 rfl) rfl ?_
                    refine vops_rd (rd_pickF (congrArg PV.bool c25) rfl) rfl ?_
                    refine vops_rd (rd_mvB rfl) rfl ?_
                    refine vops_take rfl (congrArg PV.bool c30) ?_
                    refine vops_rd (rd_mvB rfl) rfl ?_
                    refine vops_take rfl (congrArg PV.bool c30) ?_
                    refine vops_rd (rd_mvB rfl) rfl ?_
                    refine vops_take rfl (congrArg PV.bool c31) ?_
                    refine vops_rd (rd_mvB rfl) rfl ?_
                    refine vops_take rfl (congrArg PV.bool c31) ?_
                    refine vops_rd (rd_fieldAddr rfl tf_24_0 ts_3 (by decide)) rfl ?_
                    refine vops_take rfl (congrArg PV.bool c31) ?_
                    refine vops_rd (rd_load1 rfl (getO_N rfl rfl) rfl ta_3 rfl) rfl ?_
                    refine vops_take rfl (congrArg PV.bool c31) ?_
                    refine vops_rd (rd_mvI rfl) rfl ?_
                    refine vops_take rfl (congrArg PV.bool c31) ?_
                    refine vops_rd (rd_leq rfl rfl) rfl ?_
                    refine vops_take rfl (congrArg PV.bool c31) ?_
                    refine vops_rd (rd_mvB rfl) rfl ?_
                    refine vops_skip rfl rfl (neF c32) rfl ?_
                    refine vops_skip rfl rfl (neF c32) rfl ?_
                    refine vops_skip rfl rfl (neF c32) rfl ?_
                    refine vops_skip rfl rfl (neF c32) rfl ?_
                    refine vops_take rfl (congrArg PV.bool c31) ?_
                    refine vops_rd (rd_pickF (congrArg PV.bool c32) rfl) rfl ?_
                    refine vops_take rfl (congrArg PV.bool c31) ?_
                    refine vops_rd (rd_neqB rfl rfl tbo_4) rfl ?_
                    refine vops_take rfl (congrArg PV.bool c30) ?_
                    refine vops_rd (rd_pickT (congrArg PV.bool c31) rfl) rfl ?_
                    refine vops_rd (rd_pickF (congrArg PV.bool c30) rfl) rfl ?_
                    refine vops_rd (rd_mvB rfl) rfl ?_
                    refine vops_skip rfl rfl (neT c35) rfl ?_
                    refine vops_skip rfl rfl (neT c35) rfl ?_
                    refine vops_skip rfl rfl (neT c35) rfl ?_
                    refine vops_skipX rfl rfl rfl ?_
                    refine vops_skip rfl rfl (neT c35) rfl ?_
                    refine vops_rd (rd_pickT (congrArg PV.bool c35) rfl) rfl ?_
                    refine vops_nil ?_
                    obtain rfl := Option.some.inj hF
                    refine onlyE ?_
                    exact weak_pick rfl [(0, 0)] (by decide) ⟨rn_sl 0 0 rfl rfl, rn_low rfl (.bool _), trivial⟩ ⟨⟨_, rfl, rfl, .same _ _ _ _ (ltObj_map T_Span.enc_lt)⟩, trivial⟩
                  · have hF := bifF c35 hF
                    rcases Bool.eq_false_or_eq_true (!x19.2) with c36 | c36
                    · have hF := bifT c36 hF
                      refine vops_rd (rd_loadN (ds := [.int .i64 x19.1.Low, .int .i64 x19.1.High]) rfl (getO_N rfl rfl) rfl ta_24 ts_24 rfl rfl rfl) rfl ?_
                      refine vops_rd (rd_loadN (ds := [.int .i64 x21.1.Low, .int .i64 x21.1.High]) rfl (getO_N rfl rfl) rfl ta_24 ts_24 rfl rfl rfl) rfl ?_
                      refine vops_rd (rd_neqV (tab := eqTab) eqTab_ok rfl rfl eqg_24 rfl) rfl ?_
                      refine vops_rd (rd_mvB rfl) rfl ?_
                      refine vops_take rfl (congrArg PV.bool c24) ?_
                      refine vops_rd (rd_mvB rfl) rfl ?_
                      refine vops_take rfl (congrArg PV.bool c24) ?_
                      refine vops_rd (rd_mvB rfl) rfl ?_
                      refine vops_take rfl (congrArg PV.bool c24) ?_
                      refine vops_rd (rd_neqB rfl rfl tbo_4) rfl ?_
                      refine vops_rd (rd_pickF (congrArg PV.bool c24) rfl) rfl ?_
                      refine vops_rd (rd_mvB rfl) rfl ?_
                      refine vops_take rfl (congrArg PV.bool c25) ?_
                      refine vops_rd (rd_mvL rfl) rfl ?_
                      refine vops_take rfl (congrArg PV.bool c25) ?_
                      refine vops_efE (vef_callB (vs := [.vs 2 (List.map T_Span.enc o8.2.2)]) rfl Try.call24 ⟨view_sl rfl (getO_N rfl rfl) rfl rfl (lt_map T_Span.enc_lt) (full_take rfl), trivial⟩ ((F_window_Hull_ok h27 []).mono fun _ _ h => h.1) (sc_agg ⟨(.int _ _), (.int _ _), trivial⟩)) rfl ?_
                      refine vops_take rfl (congrArg PV.bool c25) ?_
                      refine vops_rd (rd_mvV rfl) rfl ?_
                      refine vops_take rfl (congrArg PV.bool c25) ?_
                      refine vops_efE (vef_callP rfl Try.call24 (F_window_Hull_ok h29 _)) rfl ?_
                      refine vops_take rfl (congrArg PV.bool c25) ?_
                      refine vops_rd (rd_neqV (tab := eqTab) eqTab_ok rfl rfl eqg_24 rfl) rfl ?_
                      refine vops_rd (rd_pickF (congrArg PV.bool c25) rfl) rfl ?_
                      refine vops_rd (rd_mvB rfl) rfl ?_
                      refine vops_take rfl (congrArg PV.bool c30) ?_
                      refine vops_rd (rd_mvB rfl) rfl ?_
                      refine vops_take rfl (congrArg PV.bool c30) ?_
                      refine vops_rd (rd_mvB rfl) rfl ?_
                      refine vops_take rfl (congrArg PV.bool c31) ?_
                      refine vops_rd (rd_mvB rfl) rfl ?_
                      refine vops_take rfl (congrArg PV.bool c31) ?_
                      refine vops_rd (rd_fieldAddr rfl tf_24_0 ts_3 (by decide)) rfl ?_
                      refine vops_take rfl (congrArg PV.bool c31) ?_
                      refine vops_rd (rd_load1 rfl (getO_N rfl rfl) rfl ta_3 rfl) rfl ?_
                      refine vops_take rfl (congrArg PV.bool c31) ?_
                      refine vops_rd (rd_mvI rfl) rfl ?_
                      refine vops_take rfl (congrArg PV.bool c31) ?_
                      refine vops_rd (rd_leq rfl rfl) rfl ?_
                      refine vops_take rfl (congrArg PV.bool c31) ?_
                      refine vops_rd (rd_mvB rfl) rfl ?_
                      refine vops_skip rfl rfl (neF c32) rfl ?_
                      refine vops_skip rfl rfl (neF c32) rfl ?_
                      refine vops_skip rfl rfl (neF c32) rfl ?_
                      refine vops_skip rfl rfl (neF c32) rfl ?_
                      refine vops_take rfl (congrArg PV.bool c31) ?_
                      refine vops_rd (rd_pickF (congrArg PV.bool c32) rfl) rfl ?_
                      refine vops_take rfl (congrArg PV.bool c31) ?_
                      refine vops_rd (rd_neqB rfl rfl tbo_4) rfl ?_
                      refine vops_take rfl (congrArg PV.bool c30) ?_
                      refine vops_rd (rd_pickT (congrArg PV.bool c31) rfl) rfl ?_
                      refine vops_rd (rd_pickF (congrArg PV.bool c30) rfl) rfl ?_
                      refine vops_rd (rd_mvB rfl) rfl ?_
                      refine vops_take rfl (congrArg PV.bool c35) ?_
                      refine vops_rd (rd_mvB rfl) rfl ?_
                      refine vops_take rfl (congrArg PV.bool c35) ?_
                      refine vops_rd (rd_not rfl) rfl ?_
                      refine vops_take rfl (congrArg PV.bool c35) ?_
                      refine vops_rd (rd_mvB rfl) rfl ?_
                      refine vops_take rfl (congrArg PV.bool c36) ?_
                      refine vops_rd (rd_mvB rfl) rfl ?_
                      refine vops_take rfl (congrArg PV.bool c35) ?_
                      refine vops_rd (rd_pickT (congrArg PV.bool c36) rfl) rfl ?_
                      refine vops_rd (rd_pickF (congrArg PV.bool c35) rfl) rfl ?_
                      refine vops_nil ?_
                      obtain rfl := Option.some.inj hF
                      refine onlyE ?_
                      exact weak_pick rfl [(0, 0)] (by decide) ⟨rn_sl 0 0 rfl rfl, rn_low rfl (.bool _), trivial⟩ ⟨⟨_, rfl, rfl, .same _ _ _ _ (ltObj_map T_Span.enc_lt)⟩, trivial⟩
                    · have hF := bifF c36 hF
                      refine vops_rd (rd_loadN (ds := [.int .i64 x19.1.Low, .int .i64 x19.1.High]) rfl (getO_N rfl rfl) rfl ta_24 ts_24 rfl rfl rfl) rfl ?_
                      refine vops_rd (rd_loadN (ds := [.int .i64 x21.1.Low, .int .i64 x21.1.High]) rfl (getO_N rfl rfl) rfl ta_24 ts_24 rfl rfl rfl) rfl ?_
                      refine vops_rd (rd_neqV (tab := eqTab) eqTab_ok rfl rfl eqg_24 rfl) rfl ?_
                      refine vops_rd (rd_mvB rfl) rfl ?_
                      refine vops_take rfl (congrArg PV.bool c24) ?_
                      refine vops_rd (rd_mvB rfl) rfl ?_
                      refine vops_take rfl (congrArg PV.bool c24) ?_
                      refine vops_rd (rd_mvB rfl) rfl ?_
                      refine vops_take rfl (congrArg PV.bool c24) ?_
                      refine vops_rd (rd_neqB rfl rfl tbo_4) rfl ?_
                      refine vops_rd (rd_pickF (congrArg PV.bool c24) rfl) rfl ?_
                      refine vops_rd (rd_mvB rfl) rfl ?_
                      refine vops_take rfl (congrArg PV.bool c25) ?_
                      refine vops_rd (rd_mvL rfl) rfl ?_
                      refine vops_take rfl (congrArg PV.bool c25) ?_
                      refine vops_efE (vef_callB (vs := [.vs 2 (List.map T_Span.enc o8.2.2)]) rfl Try.call24 ⟨view_sl rfl (getO_N rfl rfl) rfl rfl (lt_map T_Span.enc_lt) (full_take rfl), trivial⟩ ((F_window_Hull_ok h27 []).mono fun _ _ h => h.1) (sc_agg ⟨(.int _ _), (.int _ _), trivial⟩)) rfl ?_
                      refine vops_take rfl (congrArg PV.bool c25) ?_
                      refine vops_rd (rd_mvV rfl) rfl ?_
                      refine vops_take rfl (congrArg PV.bool c25) ?_
                      refine vops_efE (vef_callP rfl Try.call24 (F_window_Hull_ok h29 _)) rfl ?_
                      refine vops_take rfl (congrArg PV.bool c25) ?_
                      refine vops_rd (rd_neqV (tab := eqTab) eqTab_ok rfl rfl eqg_24 rfl) rfl ?_
                      refine vops_rd (rd_pickF (congrArg PV.bool c25) rfl) rfl ?_
                      refine vops_rd (rd_mvB rfl) rfl ?_
                      refine vops_take rfl (congrArg PV.bool c30) ?_
                      refine vops_rd (rd_mvB rfl) rfl ?_
                      refine vops_take rfl (congrArg PV.bool c30) ?_
                      refine vops_rd (rd_mvB rfl) rfl ?_
                      refine vops_take rfl (congrArg PV.bool c31) ?_
                      refine vops_rd (rd_mvB rfl) rfl ?_
                      refine vops_take rfl (congrArg PV.bool c31) ?_
                      refine vops_rd (rd_fieldAddr rfl tf_24_0 ts_3 (by decide)) rfl ?_
                      refine vops_take rfl (congrArg PV.bool c31) ?_
                      refine vops_rd (rd_load1 rfl (getO_N rfl rfl) rfl ta_3 rfl) rfl ?_
                      refine vops_take rfl (congrArg PV.bool c31) ?_
                      refine vops_rd (rd_mvI rfl) rfl ?_
                      refine vops_take rfl (congrArg PV.bool c31) ?_
                      refine vops_rd (rd_leq rfl rfl) rfl ?_
                      refine vops_take rfl (congrArg PV.bool c31) ?_
                      refine vops_rd (rd_mvB rfl) rfl ?_
                      refine vops_skip rfl rfl (neF c32) rfl ?_
                      refine vops_skip rfl rfl (neF c32) rfl ?_
                      refine vops_skip rfl rfl (neF c32) rfl ?_
                      refine vops_skip rfl rfl (neF c32) rfl ?_
                      refine vops_take rfl (congrArg PV.bool c31) ?_
                      refine vops_rd (rd_pickF (congrArg PV.bool c32) rfl) rfl ?_
                      refine vops_take rfl (congrArg PV.bool c31) ?_
                      refine vops_rd (rd_neqB rfl rfl tbo_4) rfl ?_
                      refine vops_take rfl (congrArg PV.bool c30) ?_
                      refine vops_rd (rd_pickT (congrArg PV.bool c31) rfl) rfl ?_
                      refine vops_rd (rd_pickF (congrArg PV.bool c30) rfl) rfl ?_
                      refine vops_rd (rd_mvB rfl) rfl ?_
                      refine vops_take rfl (congrArg PV.bool c35) ?_
                      refine vops_rd (rd_mvB rfl) rfl ?_
                      refine vops_take rfl (congrArg PV.bool c35) ?_
                      refine vops_rd (rd_not rfl) rfl ?_
                      refine vops_take rfl (congrArg PV.bool c35) ?_
                      refine vops_rd (rd_mvB rfl) rfl ?_
                      refine vops_skip rfl rfl (neF c36) rfl ?_
                      refine vops_take rfl (congrArg PV.bool c35) ?_
                      refine vops_rd (rd_pickF (congrArg PV.bool c36) rfl) rfl ?_
                      refine vops_rd (rd_pickF (congrArg PV.bool c35) rfl) rfl ?_
                      refine vops_nil ?_
                      obtain rfl := Option.some.inj hF
                      refine onlyE ?_
                      exact weak_pick rfl [(0, 0)] (by decide) ⟨rn_sl 0 0 rfl rfl, rn_low rfl (.bool _), trivial⟩ ⟨⟨_, rfl, rfl, .same _ _ _ _ (ltObj_map T_Span.enc_lt)⟩, trivial⟩
              · have hF := bifF c31 hF
                rcases Bool.eq_false_or_eq_true (!x19.2) with c37 | c37
                · have hF := bifT c37 hF
                  refine vops_rd (rd_loadN (ds := [.int .i64 x19.1.Low, .int .i64 x19.1.High]) rfl (getO_N rfl rfl) rfl ta_24 ts_24 rfl rfl rfl) rfl ?_
                  refine vops_rd (rd_loadN (ds := [.int .i64 x21.1.Low, .int .i64 x21.1.High]) rfl (getO_N rfl rfl) rfl ta_24 ts_24 rfl rfl rfl) rfl ?_
                  refine vops_rd (rd_neqV (tab := eqTab) eqTab_ok rfl rfl eqg_24 rfl) rfl ?_
                  refine vops_rd (rd_mvB rfl) rfl ?_
                  refine vops_take rfl (congrArg PV.bool c24) ?_
                  refine vops_rd (rd_mvB rfl) rfl ?_
                  refine vops_take rfl (congrArg PV.bool c24) ?_
                  refine vops_rd (rd_mvB rfl) rfl ?_
                  refine vops_take rfl (congrArg PV.bool c24) ?_
                  refine vops_rd (rd_neqB rfl rfl tbo_4) rfl ?_
                  refine vops_rd (rd_pickF (congrArg PV.bool c24) rfl) rfl ?_
                  refine vops_rd (rd_mvB rfl) rfl ?_
                  refine vops_take rfl (congrArg PV.bool c25) ?_
                  refine vops_rd (rd_mvL rfl) rfl ?_
                  refine vops_take rfl (congrArg PV.bool c25) ?_
                  refine vops_efE (vef_callB (vs := [.vs 2 (List.map T_Span.enc o8.2.2)]) rfl Try.call24 ⟨view_sl rfl (getO_N rfl rfl) rfl rfl (lt_map T_Span.enc_lt) (full_take rfl), trivial⟩ ((F_window_Hull_ok h27 []).mono fun _ _ h => h.1) (sc_agg ⟨(.int _ _), (.int _ _), trivial⟩)) rfl ?_
                  refine vops_take rfl (congrArg PV.bool c25) ?_
                  refine vops_rd (rd_mvV rfl) rfl ?_
                  refine vops_take rfl (congrArg PV.bool c25) ?_
                  refine vops_efE (vef_callP rfl Try.call24 (F_window_Hull_ok h29 _)) rfl ?_
                  refine vops_take rfl (congrArg PV.bool c25) ?_
                  refine vops_rd (rd_neqV (tab := eqTab) eqTab_ok rfl rfl eqg_24 rfl) rfl ?_
                  refine vops_rd (rd_pickF (congrArg PV.bool c25) rfl) rfl ?_
                  refine vops_rd (rd_mvB rfl) rfl ?_
                  refine vops_take rfl (congrArg PV.bool c30) ?_
                  refine vops_rd (rd_mvB rfl) rfl ?_
                  refine vops_take rfl (congrArg PV.bool c30) ?_
                  refine vops_rd (rd_mvB rfl) rfl ?_
                  refine vops_skip rfl rfl (neF c31) rfl ?_
                  refine vops_skip rfl rfl (neF c31) rfl ?_
                  refine vops_skip rfl rfl (neF c31) rfl ?_
                  refine vops_skip rfl rfl (neF c31) rfl ?_
                  refine vops_skip rfl rfl (neF c31) rfl ?_
                  refine vops_skip rfl rfl (neF c31) rfl ?_
                  refine vops_skipX rfl rfl rfl ?_
                  refine vops_skipX rfl rfl rfl ?_
                  refine vops_skipX rfl rfl rfl ?_
                  refine vops_skipX rfl rfl rfl ?_
                  refine vops_skip rfl rfl (neF c31) rfl ?_
                  refine vops_skip rfl rfl (neF c31) rfl ?_
                  refine vops_take rfl (congrArg PV.bool c30) ?_
                  refine vops_rd (rd_pickF (congrArg PV.bool c31) rfl) rfl ?_
                  refine vops_rd (rd_pickF (congrArg PV.bool c30) rfl) rfl ?_
                  refine vops_rd (rd_mvB rfl) rfl ?_
                  refine vops_take rfl rfl ?_
                  refine vops_rd (rd_mvB rfl) rfl ?_
                  refine vops_take rfl rfl ?_
                  refine vops_rd (rd_not rfl) rfl ?_
                  refine vops_take rfl rfl ?_
                  refine vops_rd (rd_mvB rfl) rfl ?_
                  refine vops_take rfl (congrArg PV.bool c37) ?_
                  refine vops_rd (rd_mvB rfl) rfl ?_
                  refine vops_take rfl rfl ?_
                  refine vops_rd (rd_pickT (congrArg PV.bool c37) rfl) rfl ?_
                  refine vops_rd (rd_pickF rfl rfl) rfl ?_
                  refine vops_nil ?_
                  obtain rfl := Option.some.inj hF
                  refine onlyE ?_
                  exact weak_pick rfl [(0, 0)] (by decide) ⟨rn_sl 0 0 rfl rfl, rn_low rfl (.bool _), trivial⟩ ⟨⟨_, rfl, rfl, .same _ _ _ _ (ltObj_map T_Span.enc_lt)⟩, trivial⟩
                · have hF := bifF c37 hF
                  refine vops_rd (rd_loadN (ds := [.int .i64 x19.1.Low, .int .i64 x19.1.High]) rfl (getO_N rfl rfl) rfl ta_24 ts_24 rfl rfl rfl) rfl ?_
                  refine vops_rd (rd_loadN (ds := [.int .i64 x21.1.Low, .int .i64 x21.1.High]) rfl (getO_N rfl rfl) rfl ta_24 ts_24 rfl rfl rfl) rfl ?_
                  refine vops_rd (rd_neqV (tab := eqTab) eqTab_ok rfl rfl eqg_24 rfl) rfl ?_
                  refine vops_rd (rd_mvB rfl) rfl ?_
                  refine vops_take rfl (congrArg PV.bool c24) ?_
                  refine vops_rd (rd_mvB rfl) rfl ?_
                  refine vops_take rfl (congrArg PV.bool c24) ?_
                  refine vops_rd (rd_mvB rfl) rfl ?_
                  refine vops_take rfl (congrArg PV.bool c24) ?_
                  refine vops_rd (rd_neqB rfl rfl tbo_4) rfl ?_
                  refine vops_rd (rd_pickF (congrArg PV.bool c24) rfl) rfl ?_
                  refine vops_rd (rd_mvB rfl) rfl ?_
                  refine vops_take rfl (congrArg PV.bool c25) ?_
                  refine vops_rd (rd_mvL rfl) rfl ?_
                  refine vops_take rfl (congrArg PV.bool c25) ?_
                  refine vops_efE (vef_callB (vs := [.vs 2 (List.map T_Span.enc o8.2.2)]) rfl Try.call24 ⟨view_sl rfl (getO_N rfl rfl) rfl rfl (lt_map T_Span.enc_lt) (full_take rfl), trivial⟩ ((F_window_Hull_ok h27 []).mono fun _ _ h => h.1) (sc_agg ⟨(.int _ _), (.int _ _), trivial⟩)) rfl ?_
                  refine vops_take rfl (congrArg PV.bool c25) ?_
                  refine vops_rd (rd_mvV rfl) rfl ?_
                  refine vops_take rfl (congrArg PV.bool c25) ?_
                  refine vops_efE (vef_callP rfl Try.call24 (F_window_Hull_ok h29 _)) rfl ?_
                  refine vops_take rfl (congrArg PV.bool c25) ?_
                  refine vops_rd (rd_neqV (tab := eqTab) eqTab_ok rfl rfl eqg_24 rfl) rfl ?_
                  refine vops_rd (rd_pickF (congrArg PV.bool c25) rfl) rfl ?_
                  refine vops_rd (rd_mvB rfl) rfl ?_
                  refine vops_take rfl (congrArg PV.bool c30) ?_
                  refine vops_rd (rd_mvB rfl) rfl ?_
                  refine vops_take rfl (congrArg PV.bool c30) ?_
                  refine vops_rd (rd_mvB rfl) rfl ?_
                  refine vops_skip rfl rfl (neF c31) rfl ?_
                  refine vops_skip rfl rfl (neF c31) rfl ?_
                  refine vops_skip rfl rfl (neF c31) rfl ?_
                  refine vops_skip rfl rfl (neF c31) rfl ?_
                  refine vops_skip rfl rfl (neF c31) rfl ?_
                  refine vops_skip rfl rfl (neF c31) rfl ?_
                  refine vops_skipX rfl rfl rfl ?_
                  refine vops_skipX rfl rfl rfl ?_
                  refine vops_skipX rfl rfl rfl ?_
                  refine vops_skipX rfl rfl rfl ?_
                  refine vops_skip rfl rfl (neF c31) rfl ?_
                  refine vops_skip rfl rfl (neF c31) rfl ?_
                  refine vops_take rfl (congrArg PV.bool c30) ?_
                  refine vops_rd (rd_pickF (congrArg PV.bool c31) rfl) rfl ?_
                  refine vops_rd (rd_pickF (congrArg PV.bool c30) rfl) rfl ?_
                  refine vops_rd (rd_mvB rfl) rfl ?_
                  refine vops_take rfl rfl ?_
                  refine vops_rd (rd_mvB rfl) rfl ?_
                  refine vops_take rfl rfl ?_
                  refine vops_rd (rd_not rfl) rfl ?_
                  refine vops_take rfl rfl ?_
                  refine vops_rd (rd_mvB rfl) rfl ?_
                  refine vops_skip rfl rfl (neF c37) rfl ?_
                  refine vops_take rfl rfl ?_
                  refine vops_rd (rd_pickF (congrArg PV.bool c37) rfl) rfl ?_
                  refine vops_rd (rd_pickF rfl rfl) rfl ?_
                  refine vops_nil ?_
                  obtain rfl := Option.some.inj hF
                  refine onlyE ?_
                  exact weak_pick rfl [(0, 0)] (by decide) ⟨rn_sl 0 0 rfl rfl, rn_low rfl (.bool _), trivial⟩ ⟨⟨_, rfl, rfl, .same _ _ _ _ (ltObj_map T_Span.enc_lt)⟩, trivial⟩
      · rintro _ _ _ _ ⟨rfl, hw⟩
        refine ⟨_, _, _, hw, ?_⟩
        refine vwp_cond rfl (fun c38 => ?_) (fun c38 => ?_)
        · have hF := bifT c38 hF
          refine vwp_seq ?_
          refine vwp_region ?_
          refine vops_rd (rd_asB rfl) rfl ?_
          refine vops_nil ?_
          refine vwp_ret ?_
          obtain rfl := Option.some.inj hF
          refine fnR ?_
          exact weak_pick rfl [] (by decide) ⟨rn_low rfl (.bool _), trivial⟩ trivial
        · have hF := bifF c38 hF
          refine vwp_skip ?_
          refine vwp_seq ?_
          refine vwp_region ?_
          obtain ⟨x39, h40, hF⟩ := bnd hF
          refine vops_rd (rd_mvL rfl) rfl ?_
          refine vops_efE (vef_callB (vs := [.vs 2 (List.map T_Span.enc o8.2.2)]) rfl Try.call24 ⟨view_sl rfl (getO_N rfl rfl) rfl rfl (lt_map T_Span.enc_lt) (full_take rfl), trivial⟩ ((F_window_Hull_ok h40 []).mono fun _ _ h => h.1) (sc_agg ⟨(.int _ _), (.int _ _), trivial⟩)) rfl ?_
          refine vops_efE (vef_allocN rfl rfl tz_24 rfl rfl (Nat.succ_pos _) rfl) rfl ?_
          refine vops_efE (vef_store (p := .agg [.int .i64 x39.Low, .int .i64 x39.High]) (e' := .agg [.int .i64 x39.Low, .int .i64 x39.High]) rfl (getO_N rfl rfl) rfl rfl ts_24 rfl (nt_ne rfl) rfl (Nat.le_of_ble_eq_true rfl) rfl (setO_N rfl rfl)) rfl ?_
          refine vops_nil ?_
          refine vwp_seq ?_
          refine vwp_seq ?_
          refine vwp_region ?_
          refine vops_rd (rd_asI rfl) rfl ?_
          refine vops_nil ?_
          refine vwp_block ?_
          obtain ⟨o42, ho42, hF⟩ := bnd hF
          refine vwp_monoW (vwp_loopC (F_law06_WindowMeets_L2 o8 x39) (fun s41 E' lw lc => Weak E' lw lc [(6, .sl (low.length + 0) 0 0 (o8.2.2).length), (16, .ptr (low.length + 1) 0 0 0), (17, .int .i64 s41)] low [⟨24, 2, List.map T_Span.enc o8.2.2, 0⟩, ⟨24, 2, [.agg [.int .i64 x39.Low, .int .i64 x39.High]], 0⟩]) (Sum.elim (fun j43 => OnlyE .ret (fun E' lw lc => Weak E' lw lc [(4, .bool false)] low [])) (fun j44 => OnlyE (.exit 2) (fun E' lw lc => Weak E' lw lc [] low []))) ho42 ?_ (by rintro (_|_) _ _ _ ⟨h, _⟩ <;> cases h) ?_) ?_
          · exact weak_sub ⟨rfl, rfl, rfl, trivial⟩
          · rintro s41 os41 _ _ _ hF hw
            unfold F_law06_WindowMeets_L2 at hF
            refine vwp_weak hw ?_
            refine vwp_seq ?_
            refine vwp_seq ?_
            refine vwp_region ?_
            refine vops_rd (rd_mvI rfl) rfl ?_
            refine vops_rd (rd_mvL rfl) rfl ?_
            refine vops_rd (rd_lenS rfl (getO_N rfl rfl) rfl rfl te_42) rfl ?_
            refine vops_rd (rd_lss rfl rfl) rfl ?_
            refine vops_nil ?_
            refine vwp_cond rfl (fun c45 => ?_) (fun c45 => ?_)
            · have hF := bifT c45 hF
              refine vwp_skip ?_
              refine vwp_seq ?_
              refine vwp_block ?_
              refine vwp_seq ?_
              obtain ⟨o46, ho46, hF⟩ := bnd hF
              refine vwp_monoW (Q' := (fun o46 => OnlyE .normal (fun E' lw lc => Weak E' lw lc [(6, .sl (low.length + 0) 0 0 (o8.2.2).length), (16, .ptr (low.length + 1) 0 0 0), (17, .int .i64 s41), (127, .bool o46)] low [⟨24, 2, List.map T_Span.enc o8.2.2, 0⟩, ⟨24, 2, [.agg [.int .i64 x39.Low, .int .i64 x39.High]], 0⟩])) o46) ?_ ?_
              · replace hF := ho46
                obtain ⟨x47, h48, hF⟩ := bnd hF
                rcases Bool.eq_false_or_eq_true (decide (x47.Low < x39.Low)) with c49 | c49
                · have hF := bifT c49 hF
                  refine vwp_drawn [[], [0], [], [], [2, 3], [2, 3, 4], [2, 3, 4, 5], [0, 1, 2, 3, 4, 5, 6], [0, 1, 2, 3, 4, 5, 6, 7], [0, 1, 2, 3, 4, 5, 6, 7, 8], [0, 1, 2, 3, 4, 5, 6, 7, 8, 9], [0, 1, 2, 3, 4, 5, 6, 7, 8], [0, 1, 2, 3, 4, 5, 6, 7, 8], [0, 1, 2, 3, 4, 5, 6, 7, 8, 11, 12], [0, 1, 2, 3, 4, 5, 6, 7, 8, 11, 12, 13], [0, 1, 2, 3, 4, 5, 6, 7, 8, 11, 12, 13, 14], [0, 1, 2, 3, 4, 5, 6, 7, 8, 9, 10, 11, 12, 13, 14, 15], [0, 1, 2, 3, 4, 5, 6, 7, 8, 9, 10, 11, 12, 13, 14, 15, 16]] [false, false, false, false, false, false, false, false, false, false, false, false, false, false, false, false, false, false] [(low, [⟨24, 2, List.map T_Span.enc o8.2.2, 0⟩, ⟨24, 2, [.agg [.int .i64 x39.Low, .int .i64 x39.High]], 0⟩])] mixed (by kernel_rfl) rfl (lenAll (all1 rfl all0)) rfl (low, [⟨24, 2, List.map T_Span.enc o8.2.2, 0⟩, ⟨24, 2, [.agg [.int .i64 x39.Low, .int .i64 x39.High]], 0⟩]) rfl rfl ?_
                  refine dops_rdW [(low, [⟨24, 2, List.map T_Span.enc o8.2.2, 0⟩, ⟨24, 2, [.agg [.int .i64 x39.Low, .int .i64 x39.High]], 0⟩])] rfl rfl (all1 (VRd.ntl (rd_fieldAddr rfl tf_24_0 ts_3 (by decide))) all0) ?_
                  refine dops_rdW [(low, [⟨24, 2, List.map T_Span.enc o8.2.2, 0⟩, ⟨24, 2, [.agg [.int .i64 x39.Low, .int .i64 x39.High]], 0⟩])] rfl rfl (all1 (VRd.ntl (rd_load1 rfl (getO_N rfl rfl) rfl ta_3 rfl)) all0) ?_
                  refine dops_rdW [(low, [⟨24, 2, List.map T_Span.enc o8.2.2, 0⟩, ⟨24, 2, [.agg [.int .i64 x39.Low, .int .i64 x39.High]], 0⟩])] rfl rfl (all1 (VRd.ntl (rd_mvL rfl)) all0) ?_
                  refine dops_rdW [(low, [⟨24, 2, List.map T_Span.enc o8.2.2, 0⟩, ⟨24, 2, [.agg [.int .i64 x39.Low, .int .i64 x39.High]], 0⟩])] rfl rfl (all1 (VRd.ntl (rd_mvI rfl)) all0) ?_
                  refine dops_rdW [(low, [⟨24, 2, List.map T_Span.enc o8.2.2, 0⟩, ⟨24, 2, [.agg [.int .i64 x39.Low, .int .i64 x39.High]], 0⟩])] rfl rfl (all1 (VRd.ntl (rd_ixS rfl rfl rfl (getO_N rfl rfl) h48 te_42 ts_24)) all0) ?_
                  refine dops_rdW [(low, [⟨24, 2, List.map T_Span.enc o8.2.2, 0⟩, ⟨24, 2, [.agg [.int .i64 x39.Low, .int .i64 x39.High]], 0⟩])] rfl rfl (all1 (VRd.ntl (rd_fieldAddr rfl tf_24_0 ts_3 (by decide))) all0) ?_
                  refine dops_rdW [(low, [⟨24, 2, List.map T_Span.enc o8.2.2, 0⟩, ⟨24, 2, [.agg [.int .i64 x39.Low, .int .i64 x39.High]], 0⟩])] rfl rfl (all1 (VRd.ntl (rd_ldL1 rfl (getO_N rfl rfl) (getI_some h48).2 ta_3 rfl)) all0) ?_
                  refine dops_rdW [(low, [⟨24, 2, List.map T_Span.enc o8.2.2, 0⟩, ⟨24, 2, [.agg [.int .i64 x39.Low, .int .i64 x39.High]], 0⟩])] rfl rfl (all1 (VRd.ntl (rd_gtr rfl rfl)) all0) ?_
                  refine dops_rdW [(low, [⟨24, 2, List.map T_Span.enc o8.2.2, 0⟩, ⟨24, 2, [.agg [.int .i64 x39.Low, .int .i64 x39.High]], 0⟩])] rfl rfl (all1 (VRd.ntl (rd_mvB rfl)) all0) ?_
                  refine dops_skip rfl rfl rfl (neT c49) ?_
                  refine dops_skip rfl rfl rfl (neT c49) ?_
                  refine dops_skip rfl rfl rfl (neT c49) ?_
                  refine dops_skip rfl rfl rfl (neT c49) ?_
                  refine dops_skip rfl rfl rfl (neT c49) ?_
                  refine dops_skip rfl rfl rfl (neT c49) ?_
                  refine dops_skip rfl rfl rfl (neT c49) ?_
                  refine dops_skip rfl rfl rfl (neT c49) ?_
                  refine dops_rdW [(low, [⟨24, 2, List.map T_Span.enc o8.2.2, 0⟩, ⟨24, 2, [.agg [.int .i64 x39.Low, .int .i64 x39.High]], 0⟩])] rfl rfl (all1 (VRd.ntl (rd_pickT (congrArg PV.bool c49) rfl)) all0) ?_
                  refine dops_nil ?_
                  obtain rfl := Option.some.inj hF
                  refine onlyE ?_
                  exact weak_sub ⟨rfl, rfl, rfl, rfl, trivial⟩
                · have hF := bifF c49 hF
                  obtain ⟨x50, h51, hF⟩ := bnd hF
                  refine vwp_drawn [[], [0], [], [], [2, 3], [2, 3, 4], [2, 3, 4, 5], [0, 1, 2, 3, 4, 5, 6], [0, 1, 2, 3, 4, 5, 6, 7], [0, 1, 2, 3, 4, 5, 6, 7, 8], [0, 1, 2, 3, 4, 5, 6, 7, 8, 9], [0, 1, 2, 3, 4, 5, 6, 7, 8], [0, 1, 2, 3, 4, 5, 6, 7, 8], [0, 1, 2, 3, 4, 5, 6, 7, 8, 11, 12], [0, 1, 2, 3, 4, 5, 6, 7, 8, 11, 12, 13], [0, 1, 2, 3, 4, 5, 6, 7, 8, 11, 12, 13, 14], [0, 1, 2, 3, 4, 5, 6, 7, 8, 9, 10, 11, 12, 13, 14, 15], [0, 1, 2, 3, 4, 5, 6, 7, 8, 9, 10, 11, 12, 13, 14, 15, 16]] [false, false, false, false, false, false, false, false, false, false, false, false, false, false, false, false, false, false] [(low, [⟨24, 2, List.map T_Span.enc o8.2.2, 0⟩, ⟨24, 2, [.agg [.int .i64 x39.Low, .int .i64 x39.High]], 0⟩])] mixed (by kernel_rfl) rfl (lenAll (all1 rfl all0)) rfl (low, [⟨24, 2, List.map T_Span.enc o8.2.2, 0⟩, ⟨24, 2, [.agg [.int .i64 x39.Low, .int .i64 x39.High]], 0⟩]) rfl rfl ?_
                  refine dops_rdW [(low, [⟨24, 2, List.map T_Span.enc o8.2.2, 0⟩, ⟨24, 2, [.agg [.int .i64 x39.Low, .int .i64 x39.High]], 0⟩])] rfl rfl (all1 (VRd.ntl (rd_fieldAddr rfl tf_24_0 ts_3 (by decide))) all0) ?_
                  refine dops_rdW [(low, [⟨24, 2, List.map T_Span.enc o8.2.2, 0⟩, ⟨24, 2, [.agg [.int .i64 x39.Low, .int .i64 x39.High]], 0⟩])] rfl rfl (all1 (VRd.ntl (rd_load1 rfl (getO_N rfl rfl) rfl ta_3 rfl)) all0) ?_
                  refine dops_rdW [(low, [⟨24, 2, List.map T_Span.enc o8.2.2, 0⟩, ⟨24, 2, [.agg [.int .i64 x39.Low, .int .i64 x39.High]], 0⟩])] rfl rfl (all1 (VRd.ntl (rd_mvL rfl)) all0) ?_
                  refine dops_rdW [(low, [⟨24, 2, List.map T_Span.enc o8.2.2, 0⟩, ⟨24, 2, [.agg [.int .i64 x39.Low, .int .i64 x39.High]], 0⟩])] rfl rfl (all1 (VRd.ntl (rd_mvI rfl)) all0) ?_
                  refine dops_rdW [(low, [⟨24, 2, List.map T_Span.enc o8.2.2, 0⟩, ⟨24, 2, [.agg [.int .i64 x39.Low, .int .i64 x39.High]], 0⟩])] rfl rfl (all1 (VRd.ntl (rd_ixS rfl rfl rfl (getO_N rfl rfl) h48 te_42 ts_24)) all0) ?_
                  refine dops_rdW [(low, [⟨24, 2, List.map T_Span.enc o8.2.2, 0⟩, ⟨24, 2, [.agg [.int .i64 x39.Low, .int .i64 x39.High]], 0⟩])] rfl rfl (all1 (VRd.ntl (rd_fieldAddr rfl tf_24_0 ts_3 (by decide))) all0) ?_
                  refine dops_rdW [(low, [⟨24, 2, List.map T_Span.enc o8.2.2, 0⟩, ⟨24, 2, [.agg [.int .i64 x39.Low, .int .i64 x39.High]], 0⟩])] rfl rfl (all1 (VRd.ntl (rd_ldL1 rfl (getO_N rfl rfl) (getI_some h48).2 ta_3 rfl)) all0) ?_
                  refine dops_rdW [(low, [⟨24, 2, List.map T_Span.enc o8.2.2, 0⟩, ⟨24, 2, [.agg [.int .i64 x39.Low, .int .i64 x39.High]], 0⟩])] rfl rfl (all1 (VRd.ntl (rd_gtr rfl rfl)) all0) ?_
                  refine dops_rdW [(low, [⟨24, 2, List.map T_Span.enc o8.2.2, 0⟩, ⟨24, 2, [.agg [.int .i64 x39.Low, .int .i64 x39.High]], 0⟩])] rfl rfl (all1 (VRd.ntl (rd_mvB rfl)) all0) ?_
                  refine dops_takeW [(low, [⟨24, 2, List.map T_Span.enc o8.2.2, 0⟩, ⟨24, 2, [.agg [.int .i64 x39.Low, .int .i64 x39.High]], 0⟩])] rfl rfl rfl (congrArg PV.bool c49) (all1 (VRd.ntl (rd_fieldAddr rfl tf_24_1 ts_3 (by decide))) all0) ?_
                  refine dops_takeW [(low, [⟨24, 2, List.map T_Span.enc o8.2.2, 0⟩, ⟨24, 2, [.agg [.int .i64 x39.Low, .int .i64 x39.High]], 0⟩])] rfl rfl rfl (congrArg PV.bool c49) (all1 (VRd.ntl (rd_load1 rfl (getO_N rfl rfl) rfl ta_3 rfl)) all0) ?_
                  refine dops_takeW [(low, [⟨24, 2, List.map T_Span.enc o8.2.2, 0⟩, ⟨24, 2, [.agg [.int .i64 x39.Low, .int .i64 x39.High]], 0⟩])] rfl rfl rfl (congrArg PV.bool c49) (all1 (VRd.ntl (rd_mvL rfl)) all0) ?_
                  refine dops_takeW [(low, [⟨24, 2, List.map T_Span.enc o8.2.2, 0⟩, ⟨24, 2, [.agg [.int .i64 x39.Low, .int .i64 x39.High]], 0⟩])] rfl rfl rfl (congrArg PV.bool c49) (all1 (VRd.ntl (rd_mvI rfl)) all0) ?_
                  refine dops_takeW [(low, [⟨24, 2, List.map T_Span.enc o8.2.2, 0⟩, ⟨24, 2, [.agg [.int .i64 x39.Low, .int .i64 x39.High]], 0⟩])] rfl rfl rfl (congrArg PV.bool c49) (all1 (VRd.ntl (rd_ixS rfl rfl rfl (getO_N rfl rfl) h51 te_42 ts_24)) all0) ?_
                  refine dops_takeW [(low, [⟨24, 2, List.map T_Span.enc o8.2.2, 0⟩, ⟨24, 2, [.agg [.int .i64 x39.Low, .int .i64 x39.High]], 0⟩])] rfl rfl rfl (congrArg PV.bool c49) (all1 (VRd.ntl (rd_fieldAddr rfl tf_24_1 ts_3 (by decide))) all0) ?_
                  refine dops_takeW [(low, [⟨24, 2, List.map T_Span.enc o8.2.2, 0⟩, ⟨24, 2, [.agg [.int .i64 x39.Low, .int .i64 x39.High]], 0⟩])] rfl rfl rfl (congrArg PV.bool c49) (all1 (VRd.ntl (rd_ldL1 rfl (getO_N rfl rfl) (getI_some h51).2 ta_3 rfl)) all0) ?_
                  refine dops_takeW [(low, [⟨24, 2, List.map T_Span.enc o8.2.2, 0⟩, ⟨24, 2, [.agg [.int .i64 x39.Low, .int .i64 x39.High]], 0⟩])] rfl rfl rfl (congrArg PV.bool c49) (all1 (VRd.ntl (rd_lss rfl rfl)) all0) ?_
                  refine dops_rdW [(low, [⟨24, 2, List.map T_Span.enc o8.2.2, 0⟩, ⟨24, 2, [.agg [.int .i64 x39.Low, .int .i64 x39.High]], 0⟩])] rfl rfl (all1 (VRd.ntl (rd_pickF (congrArg PV.bool c49) rfl)) all0) ?_
                  refine dops_nil ?_
                  obtain rfl := Option.some.inj hF
                  refine onlyE ?_
                  exact weak_sub ⟨rfl, rfl, rfl, rfl, trivial⟩
              · rintro _ _ _ _ ⟨rfl, hw⟩
                refine ⟨_, _, _, hw, ?_⟩
                refine vwp_cond rfl (fun c52 => ?_) (fun c52 => ?_)
                · have hF := bifT c52 hF
                  refine vwp_seq ?_
                  refine vwp_region ?_
                  refine vops_rd (rd_asB rfl) rfl ?_
                  refine vops_nil ?_
                  refine vwp_ret ?_
                  obtain rfl := Option.some.inj hF
                  refine onlyE ?_
                  exact weak_pick rfl [] (by decide) ⟨rn_low rfl (.bool _), trivial⟩ trivial
                · have hF := bifF c52 hF
                  refine vwp_skip ?_
                  refine vwp_region ?_
                  refine vops_rd (rd_mvI rfl) rfl ?_
                  refine vops_rd (rd_add rfl rfl rfl) rfl ?_
                  refine vops_rd (rd_asI rfl) rfl ?_
                  refine vops_nil ?_
                  obtain rfl := Option.some.inj hF
                  refine onlyE ?_
                  exact weak_sub ⟨rfl, rfl, rfl, trivial⟩
            · have hF := bifF c45 hF
              refine vwp_exit ?_
              obtain rfl := Option.some.inj hF
              refine onlyE ?_
              exact weak_pick rfl [] (by decide) trivial trivial
          · rcases o42 with j43 | j44
            · replace hF := elimL hF
              rintro _ _ _ _ ⟨rfl, hw⟩
              refine ⟨_, _, _, hw, ?_⟩
              obtain rfl := Option.some.inj hF
              refine fnR ?_
              exact weak_sub ⟨rfl, trivial⟩
            · replace hF := elimR hF
              rintro _ _ _ _ ⟨rfl, hw⟩
              refine ⟨_, _, _, hw, ?_⟩
              refine vwp_seq ?_
              refine vwp_region ?_
              obtain ⟨x53, h54, hF⟩ := bnd hF
              refine vops_efE (vef_callP rfl Try.call13 (F_law06_awake_ok h54 _)) rfl ?_
              refine vops_rd (rd_asB rfl) rfl ?_
              refine vops_nil ?_
              refine vwp_ret ?_
              obtain rfl := Option.some.inj hF
              refine fnR ?_
              exact weak_sub ⟨rfl, trivial⟩
  · rintro _ _ _ _ ⟨he, hw⟩
    refine ⟨_, _, _, hw, ?_⟩
    exact bodyQ_pure he [.bool r] ⟨rfl, trivial⟩ (.bool _) ⟨rfl, rfl⟩

end Go.Proofs.Ytnphpimajaadpaa
