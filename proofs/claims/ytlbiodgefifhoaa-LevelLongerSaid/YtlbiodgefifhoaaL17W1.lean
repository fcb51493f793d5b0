/- Printed by wip/lift/lift.py: the walks that show that the program computes them. -/
import Derived.Test.YtlbiodgefifhoaaR17T
import Derived.Test.YtlbiodgefifhoaaAmlY
import Derived.Test.YtlbiodgefifhoaaL17D
namespace Go.Proofs.Ytlbiodgefifhoaa
open Go Go.Aml Go.L
attribute [local irreducible] VRd VEf VOp VOps VWp DOps
set_option linter.unusedVariables false
set_option maxHeartbeats 4000000

theorem mixed : Try.prog.follows .mixedOrders = true := by kernel_rfl
def eqTab : EqTab := [(3, 1, []), (4, 0, []), (26, 3, [(0, 1, false, 4), (1, 1, false, 3), (2, 1, false, 3)])]
theorem eqTab_ok : eqTabOk Try.prog eqTab = true := by kernel_rfl
theorem eqg_26 : Try.prog.eqGuardType Try.prog.depth 26 = false := by kernel_rfl

theorem F_draw_New_ok {p0 : List Int} {r : T_draw_Codes} (hF : F_draw_New p0 = some r) (low : List AObj) {n : Nat} (hn : low.length = n) :
    VCalls Try.prog 9 [.vs 1 (List.map (PV.int .u8) p0)] low fun x low' => x = .ptr (n + 0) 0 0 0 ∧ low' = low ++ [⟨53, 2, [.agg [.vs 1 (List.map (PV.int .u8) r.l), .int .i64 r.at_]], 0⟩] := by
  refine vcalls_of_body (nt := 10) (rs := [.tmp 2]) Try.func9 rfl rfl (Nat.le_of_ble_eq_true rfl) rfl ?_
  refine vwp_monoW (Q' := FnE (fun E' lw lc => Weak E' lw lc [(2, .ptr (n + 0) 0 0 0)] low [⟨53, 2, [.agg [.vs 1 (List.map (PV.int .u8) r.l), .int .i64 r.at_]], 0⟩])) ?_ ?_
  · unfold F_draw_New at hF
    refine vwp_seq ?_
    refine vwp_region ?_
    refine vops_rd (rd_asQ rfl) rfl ?_
    refine vops_nil ?_
    refine vwp_seq ?_
    refine vwp_region ?_
    obtain ⟨x1, h2, hF⟩ := bnd hF
    refine vops_rd (rd_mvV rfl) rfl ?_
    refine vops_rd (rd_mvV rfl) rfl ?_
    refine vops_rd (rd_to (rd_lenV rfl rfl te_22) (congrArg (fun n : Nat => PV.int .i64 (n : Int)) (List.length_map _))) rfl ?_
    refine vops_rd (rd_min rfl rfl) rfl ?_
    refine vops_rd (rd_slV rfl te_22 ts_5 rfl ⟨_, rfl⟩ h2) rfl ?_
    refine vops_rd (rd_build (vs := [(0, .vs 1 (List.map (PV.int .u8) x1))]) (ds := [.vs 1 (List.map (PV.int .u8) x1), .int .i64 0]) tz_53 rfl rfl tp_53 ⟨rfl, rfl, trivial⟩ (nt_all2 rfl) rfl) rfl ?_
    refine vops_efE (vef_boxN hn rfl (v := .agg [.vs 1 (List.map (PV.int .u8) x1), .int .i64 0]) rfl rfl (Nat.succ_pos _) rfl rfl) rfl ?_
    refine vops_rd (rd_asP rfl) rfl ?_
    refine vops_nil ?_
    refine vwp_ret ?_
    obtain rfl := Option.some.inj hF
    refine fnR ?_
    exact weak_sub ⟨rfl, trivial⟩
  · rintro _ _ _ _ ⟨he, hw⟩
    refine ⟨_, _, _, hw, ?_⟩
    exact bodyQ_all he [.ptr (n + 0) 0 0 0] ⟨rfl, trivial⟩ ⟨rfl, rfl⟩

theorem F_draw_Codes_Next_ok0 {p0 : T_draw_Codes} {p1 : Int} {r : T_draw_Codes × Int} (hF : F_draw_Codes_Next p0 p1 = some r) {low0 : List AObj} {q0 w0 : Nat} (hq0 : q0 < low0.length) :
    VCalls Try.prog 24 [.ptr q0 w0 0 0, .int .i64 p1] (low0.set q0 ⟨53, 2, [.agg [.vs 1 (List.map (PV.int .u8) p0.l), .int .i64 p0.at_]], w0⟩) fun x low' => x = .int .i64 r.2 ∧ low' = low0.set q0 ⟨53, 2, [.agg [.vs 1 (List.map (PV.int .u8) r.1.l), .int .i64 r.1.at_]], w0⟩ := by
  refine vcalls_of_body (nt := 77) (rs := [.tmp 4]) Try.func24 rfl rfl (Nat.le_of_ble_eq_true rfl) rfl ?_
  refine vwp_monoW (Q' := FnE (fun E' lw lc => Weak E' lw lc [(4, .int .i64 r.2)] (low0.set q0 ⟨53, 2, [.agg [.vs 1 (List.map (PV.int .u8) r.1.l), .int .i64 r.1.at_]], w0⟩) [])) ?_ ?_
  · unfold F_draw_Codes_Next at hF
    refine vwp_seq ?_
    refine vwp_region ?_
    refine vops_rd (rd_asI rfl) rfl ?_
    refine vops_nil ?_
    refine vwp_seq ?_
    refine vwp_seq ?_
    obtain ⟨o1, ho1, hF⟩ := bnd hF
    refine vwp_monoW (Q' := (fun o1 => OnlyE .normal (fun E' lw lc => Weak E' lw lc [(0, .ptr q0 w0 0 0), (1, .int .i64 p1), (19, .bool o1)] (low0.set q0 ⟨53, 2, [.agg [.vs 1 (List.map (PV.int .u8) p0.l), .int .i64 p0.at_]], w0⟩) [])) o1) ?_ ?_
    · replace hF := ho1
      rcases Bool.eq_false_or_eq_true (decide (p1 < 1)) with c2 | c2
      · have hF := bifT c2 hF
        refine vwp_drawn [[], [0], [0, 1], [0, 1, 2], [0, 1, 2, 3], [0, 1, 2, 3, 4], [0, 1, 2, 3, 4, 5], [0, 1, 2], [0, 1, 2, 7], [0, 1, 2, 7, 8], [0, 1, 2, 7, 8, 9], [0, 1, 2, 7, 8, 9, 10], [0, 1, 2, 3, 4, 5, 6, 7, 8, 9, 10, 11], [0, 1, 2, 3, 4, 5, 6, 7, 8, 9, 10, 11, 12]] [false, false, false, false, false, false, false, false, false, false, false, false, false, false] [((low0.set q0 ⟨53, 2, [.agg [.vs 1 (List.map (PV.int .u8) p0.l), .int .i64 p0.at_]], w0⟩), [])] mixed (by kernel_rfl) rfl (lenAll (all1 len_set2 all0)) rfl ((low0.set q0 ⟨53, 2, [.agg [.vs 1 (List.map (PV.int .u8) p0.l), .int .i64 p0.at_]], w0⟩), []) rfl rfl ?_
        refine dops_rdW [((low0.set q0 ⟨53, 2, [.agg [.vs 1 (List.map (PV.int .u8) p0.l), .int .i64 p0.at_]], w0⟩), [])] rfl rfl (all1 (VRd.ntl (rd_mvI rfl)) all0) ?_
        refine dops_rdW [((low0.set q0 ⟨53, 2, [.agg [.vs 1 (List.map (PV.int .u8) p0.l), .int .i64 p0.at_]], w0⟩), [])] rfl rfl (all1 (VRd.ntl (rd_lss rfl rfl)) all0) ?_
        refine dops_rdW [((low0.set q0 ⟨53, 2, [.agg [.vs 1 (List.map (PV.int .u8) p0.l), .int .i64 p0.at_]], w0⟩), [])] rfl rfl (all1 (VRd.ntl (rd_mvB rfl)) all0) ?_
        refine dops_skip rfl rfl rfl (neT c2) ?_
        refine dops_skip rfl rfl rfl (neT c2) ?_
        refine dops_skip rfl rfl rfl (neT c2) ?_
        refine dops_skip rfl rfl rfl (neT c2) ?_
        refine dops_skip rfl rfl rfl (neT c2) ?_
        refine dops_skip rfl rfl rfl (neT c2) ?_
        refine dops_skip rfl rfl rfl (neT c2) ?_
        refine dops_skip rfl rfl rfl (neT c2) ?_
        refine dops_skip rfl rfl rfl (neT c2) ?_
        refine dops_skip rfl rfl rfl (neT c2) ?_
        refine dops_rdW [((low0.set q0 ⟨53, 2, [.agg [.vs 1 (List.map (PV.int .u8) p0.l), .int .i64 p0.at_]], w0⟩), [])] rfl rfl (all1 (VRd.ntl (rd_pickT (congrArg PV.bool c2) rfl)) all0) ?_
        refine dops_nil ?_
        obtain rfl := Option.some.inj hF
        refine onlyE ?_
        exact weak_sub ⟨rfl, rfl, rfl, trivial⟩
      · have hF := bifF c2 hF
        refine vwp_drawn [[], [0], [0, 1], [0, 1, 2], [0, 1, 2, 3], [0, 1, 2, 3, 4], [0, 1, 2, 3, 4, 5], [0, 1, 2], [0, 1, 2, 7], [0, 1, 2, 7, 8], [0, 1, 2, 7, 8, 9], [0, 1, 2, 7, 8, 9, 10], [0, 1, 2, 3, 4, 5, 6, 7, 8, 9, 10, 11], [0, 1, 2, 3, 4, 5, 6, 7, 8, 9, 10, 11, 12]] [false, false, false, false, false, false, false, false, false, false, false, false, false, false] [((low0.set q0 ⟨53, 2, [.agg [.vs 1 (List.map (PV.int .u8) p0.l), .int .i64 p0.at_]], w0⟩), [])] mixed (by kernel_rfl) rfl (lenAll (all1 len_set2 all0)) rfl ((low0.set q0 ⟨53, 2, [.agg [.vs 1 (List.map (PV.int .u8) p0.l), .int .i64 p0.at_]], w0⟩), []) rfl rfl ?_
        refine dops_rdW [((low0.set q0 ⟨53, 2, [.agg [.vs 1 (List.map (PV.int .u8) p0.l), .int .i64 p0.at_]], w0⟩), [])] rfl rfl (all1 (VRd.ntl (rd_mvI rfl)) all0) ?_
        refine dops_rdW [((low0.set q0 ⟨53, 2, [.agg [.vs 1 (List.map (PV.int .u8) p0.l), .int .i64 p0.at_]], w0⟩), [])] rfl rfl (all1 (VRd.ntl (rd_lss rfl rfl)) all0) ?_
        refine dops_rdW [((low0.set q0 ⟨53, 2, [.agg [.vs 1 (List.map (PV.int .u8) p0.l), .int .i64 p0.at_]], w0⟩), [])] rfl rfl (all1 (VRd.ntl (rd_mvB rfl)) all0) ?_
        refine dops_takeW [((low0.set q0 ⟨53, 2, [.agg [.vs 1 (List.map (PV.int .u8) p0.l), .int .i64 p0.at_]], w0⟩), [])] rfl rfl rfl (congrArg PV.bool c2) (all1 (VRd.ntl (rd_mvP rfl)) all0) ?_
        refine dops_takeW [((low0.set q0 ⟨53, 2, [.agg [.vs 1 (List.map (PV.int .u8) p0.l), .int .i64 p0.at_]], w0⟩), [])] rfl rfl rfl (congrArg PV.bool c2) (all1 (VRd.ntl (rd_nilPtr rfl)) all0) ?_
        refine dops_takeW [((low0.set q0 ⟨53, 2, [.agg [.vs 1 (List.map (PV.int .u8) p0.l), .int .i64 p0.at_]], w0⟩), [])] rfl rfl rfl (congrArg PV.bool c2) (all1 (VRd.ntl (rd_fieldAddr rfl tf_53_1 ts_3 (by decide))) all0) ?_
        refine dops_takeW [((low0.set q0 ⟨53, 2, [.agg [.vs 1 (List.map (PV.int .u8) p0.l), .int .i64 p0.at_]], w0⟩), [])] rfl rfl rfl (congrArg PV.bool c2) (all1 (VRd.ntl (rd_load1 rfl (getO_set hq0) rfl ta_3 rfl)) all0) ?_
        refine dops_takeW [((low0.set q0 ⟨53, 2, [.agg [.vs 1 (List.map (PV.int .u8) p0.l), .int .i64 p0.at_]], w0⟩), [])] rfl rfl rfl (congrArg PV.bool c2) (all1 (VRd.ntl (rd_mvP rfl)) all0) ?_
        refine dops_takeW [((low0.set q0 ⟨53, 2, [.agg [.vs 1 (List.map (PV.int .u8) p0.l), .int .i64 p0.at_]], w0⟩), [])] rfl rfl rfl (congrArg PV.bool c2) (all1 (VRd.ntl (rd_nilPtr rfl)) all0) ?_
        refine dops_takeW [((low0.set q0 ⟨53, 2, [.agg [.vs 1 (List.map (PV.int .u8) p0.l), .int .i64 p0.at_]], w0⟩), [])] rfl rfl rfl (congrArg PV.bool c2) (all1 (VRd.ntl (rd_fieldAddr rfl tf_53_0 ts_22 (by decide))) all0) ?_
        refine dops_takeW [((low0.set q0 ⟨53, 2, [.agg [.vs 1 (List.map (PV.int .u8) p0.l), .int .i64 p0.at_]], w0⟩), [])] rfl rfl rfl (congrArg PV.bool c2) (all1 (VRd.ntl (rd_load1 rfl (getO_set hq0) rfl ta_22 rfl)) all0) ?_
        refine dops_takeW [((low0.set q0 ⟨53, 2, [.agg [.vs 1 (List.map (PV.int .u8) p0.l), .int .i64 p0.at_]], w0⟩), [])] rfl rfl rfl (congrArg PV.bool c2) (all1 (VRd.ntl (rd_to (rd_lenV rfl rfl te_22) (congrArg (fun n : Nat => PV.int .i64 (n : Int)) (List.length_map _)))) all0) ?_
        refine dops_takeW [((low0.set q0 ⟨53, 2, [.agg [.vs 1 (List.map (PV.int .u8) p0.l), .int .i64 p0.at_]], w0⟩), [])] rfl rfl rfl (congrArg PV.bool c2) (all1 (VRd.ntl (rd_geq rfl rfl)) all0) ?_
        refine dops_rdW [((low0.set q0 ⟨53, 2, [.agg [.vs 1 (List.map (PV.int .u8) p0.l), .int .i64 p0.at_]], w0⟩), [])] rfl rfl (all1 (VRd.ntl (rd_pickF (congrArg PV.bool c2) rfl)) all0) ?_
        refine dops_nil ?_
        obtain rfl := Option.some.inj hF
        refine onlyE ?_
        exact weak_sub ⟨rfl, rfl, rfl, trivial⟩
    · rintro _ _ _ _ ⟨rfl, hw⟩
      refine ⟨_, _, _, hw, ?_⟩
      refine vwp_cond rfl (fun c3 => ?_) (fun c3 => ?_)
      · have hF := bifT c3 hF
        refine vwp_seq ?_
        refine vwp_region ?_
        refine vops_rd (rd_asI rfl) rfl ?_
        refine vops_nil ?_
        refine vwp_ret ?_
        obtain rfl := Option.some.inj hF
        refine fnR ?_
        exact weak_sub ⟨rfl, trivial⟩
      · have hF := bifF c3 hF
        refine vwp_skip ?_
        refine vwp_seq ?_
        refine vwp_region ?_
        refine vops_rd (rd_mvP rfl) rfl ?_
        refine vops_rd (rd_nilPtr rfl) rfl ?_
        refine vops_rd (rd_fieldAddr rfl tf_53_1 ts_3 (by decide)) rfl ?_
        refine vops_rd (rd_load1 rfl (getO_set hq0) rfl ta_3 rfl) rfl ?_
        refine vops_rd (rd_add rfl rfl rfl) rfl ?_
        refine vops_rd (rd_nilPtr rfl) rfl ?_
        refine vops_rd (rd_fieldAddr rfl tf_53_1 ts_3 (by decide)) rfl ?_
        refine vops_efE (vef_store (p := .int .i64 (IntKind.i64.wrap (p0.at_ + 1))) (e' := .agg [.vs 1 (List.map (PV.int .u8) p0.l), .int .i64 (IntKind.i64.wrap (p0.at_ + 1))]) rfl (getO_set hq0) rfl rfl ts_3 rfl (nt_ne rfl) rfl (Nat.le_of_ble_eq_true rfl) rfl (setO_set hq0 (ltObj_es ⟨(lt_agg ⟨.vs _ _, .int _ _, trivial⟩), trivial⟩))) rfl ?_
        refine vops_nil ?_
        refine vwp_seq ?_
        obtain ⟨x4, h5, hF⟩ := bnd hF
        refine vwp_drawn [[], [0], [0, 1], [0, 1, 2], [], [4], [4, 5], [4, 5, 6], [4, 5, 6, 7], [0, 1, 2, 3, 4, 5, 6, 7, 8], [0, 1, 2, 3, 4, 5, 6, 7, 8, 9], [0, 1, 2, 3, 4, 5, 6, 7, 8, 9, 10], [0, 1, 2, 3, 4, 5, 6, 7, 8, 9, 10, 11]] [false, false, false, false, false, false, false, false, false, false, false, false, false] [((low0.set q0 ⟨53, 2, [.agg [.vs 1 (List.map (PV.int .u8) p0.l), .int .i64 (IntKind.i64.wrap (p0.at_ + 1))]], w0⟩), [])] mixed (by kernel_rfl) rfl (lenAll (all1 len_set2 all0)) rfl ((low0.set q0 ⟨53, 2, [.agg [.vs 1 (List.map (PV.int .u8) p0.l), .int .i64 (IntKind.i64.wrap (p0.at_ + 1))]], w0⟩), []) rfl rfl ?_
        refine dops_rdW [((low0.set q0 ⟨53, 2, [.agg [.vs 1 (List.map (PV.int .u8) p0.l), .int .i64 (IntKind.i64.wrap (p0.at_ + 1))]], w0⟩), [])] rfl rfl (all1 (VRd.ntl (rd_mvP rfl)) all0) ?_
        refine dops_rdW [((low0.set q0 ⟨53, 2, [.agg [.vs 1 (List.map (PV.int .u8) p0.l), .int .i64 (IntKind.i64.wrap (p0.at_ + 1))]], w0⟩), [])] rfl rfl (all1 (VRd.ntl (rd_nilPtr rfl)) all0) ?_
        refine dops_rdW [((low0.set q0 ⟨53, 2, [.agg [.vs 1 (List.map (PV.int .u8) p0.l), .int .i64 (IntKind.i64.wrap (p0.at_ + 1))]], w0⟩), [])] rfl rfl (all1 (VRd.ntl (rd_fieldAddr rfl tf_53_0 ts_22 (by decide))) all0) ?_
        refine dops_rdW [((low0.set q0 ⟨53, 2, [.agg [.vs 1 (List.map (PV.int .u8) p0.l), .int .i64 (IntKind.i64.wrap (p0.at_ + 1))]], w0⟩), [])] rfl rfl (all1 (VRd.ntl (rd_load1 rfl (getO_set hq0) rfl ta_22 rfl)) all0) ?_
        refine dops_rdW [((low0.set q0 ⟨53, 2, [.agg [.vs 1 (List.map (PV.int .u8) p0.l), .int .i64 (IntKind.i64.wrap (p0.at_ + 1))]], w0⟩), [])] rfl rfl (all1 (VRd.ntl (rd_mvP rfl)) all0) ?_
        refine dops_rdW [((low0.set q0 ⟨53, 2, [.agg [.vs 1 (List.map (PV.int .u8) p0.l), .int .i64 (IntKind.i64.wrap (p0.at_ + 1))]], w0⟩), [])] rfl rfl (all1 (VRd.ntl (rd_nilPtr rfl)) all0) ?_
        refine dops_rdW [((low0.set q0 ⟨53, 2, [.agg [.vs 1 (List.map (PV.int .u8) p0.l), .int .i64 (IntKind.i64.wrap (p0.at_ + 1))]], w0⟩), [])] rfl rfl (all1 (VRd.ntl (rd_fieldAddr rfl tf_53_1 ts_3 (by decide))) all0) ?_
        refine dops_rdW [((low0.set q0 ⟨53, 2, [.agg [.vs 1 (List.map (PV.int .u8) p0.l), .int .i64 (IntKind.i64.wrap (p0.at_ + 1))]], w0⟩), [])] rfl rfl (all1 (VRd.ntl (rd_load1 rfl (getO_set hq0) rfl ta_3 rfl)) all0) ?_
        refine dops_rdW [((low0.set q0 ⟨53, 2, [.agg [.vs 1 (List.map (PV.int .u8) p0.l), .int .i64 (IntKind.i64.wrap (p0.at_ + 1))]], w0⟩), [])] rfl rfl (all1 (VRd.ntl (rd_sub rfl rfl rfl)) all0) ?_
        refine dops_rdW [((low0.set q0 ⟨53, 2, [.agg [.vs 1 (List.map (PV.int .u8) p0.l), .int .i64 (IntKind.i64.wrap (p0.at_ + 1))]], w0⟩), [])] rfl rfl (all1 (VRd.ntl (rd_to (rd_ixV rfl rfl h5 te_22 ts_5) (v' := .vptr [.int .u8 x4] 0) rfl)) all0) ?_
        refine dops_rdW [((low0.set q0 ⟨53, 2, [.agg [.vs 1 (List.map (PV.int .u8) p0.l), .int .i64 (IntKind.i64.wrap (p0.at_ + 1))]], w0⟩), [])] rfl rfl (all1 (VRd.ntl (rd_loadV1 rfl ta_5 rfl)) all0) ?_
        refine dops_rdW [((low0.set q0 ⟨53, 2, [.agg [.vs 1 (List.map (PV.int .u8) p0.l), .int .i64 (IntKind.i64.wrap (p0.at_ + 1))]], w0⟩), [])] rfl rfl (all1 (VRd.ntl (rd_conv rfl us_5 ti_3 rfl)) all0) ?_
        refine dops_rdW [((low0.set q0 ⟨53, 2, [.agg [.vs 1 (List.map (PV.int .u8) p0.l), .int .i64 (IntKind.i64.wrap (p0.at_ + 1))]], w0⟩), [])] rfl rfl (all1 (VRd.ntl (rd_asI rfl)) all0) ?_
        refine dops_nil ?_
        refine vwp_seq ?_
        refine vwp_seq ?_
        obtain ⟨o6, ho6, hF⟩ := bnd hF
        refine vwp_monoW (Q' := (fun o6 => OnlyE .normal (fun E' lw lc => Weak E' lw lc [(0, .ptr q0 w0 0 0), (1, .int .i64 p1), (5, .int .i64 (IntKind.i64.wrap x4)), (52, .bool o6)] (low0.set q0 ⟨53, 2, [.agg [.vs 1 (List.map (PV.int .u8) p0.l), .int .i64 (IntKind.i64.wrap (p0.at_ + 1))]], w0⟩) [])) o6) ?_ ?_
        · replace hF := ho6
          rcases Bool.eq_false_or_eq_true (decide (256 < p1)) with c7 | c7
          · have hF := bifT c7 hF
            refine vwp_drawn [[], [0], [0, 1], [0, 1, 2], [0, 1, 2, 3], [0, 1, 2, 3, 4], [0, 1, 2, 3, 4, 5], [0, 1, 2], [0, 1, 2, 7], [0, 1, 2, 7, 8], [0, 1, 2, 7, 8, 9], [0, 1, 2, 7, 8, 9, 10], [0, 1, 2, 3, 4, 5, 6, 7, 8, 9, 10, 11], [0, 1, 2, 3, 4, 5, 6, 7, 8, 9, 10, 11, 12]] [false, false, false, false, false, false, false, false, false, false, false, false, false, false] [((low0.set q0 ⟨53, 2, [.agg [.vs 1 (List.map (PV.int .u8) p0.l), .int .i64 (IntKind.i64.wrap (p0.at_ + 1))]], w0⟩), [])] mixed (by kernel_rfl) rfl (lenAll (all1 len_set2 all0)) rfl ((low0.set q0 ⟨53, 2, [.agg [.vs 1 (List.map (PV.int .u8) p0.l), .int .i64 (IntKind.i64.wrap (p0.at_ + 1))]], w0⟩), []) rfl rfl ?_
            refine dops_rdW [((low0.set q0 ⟨53, 2, [.agg [.vs 1 (List.map (PV.int .u8) p0.l), .int .i64 (IntKind.i64.wrap (p0.at_ + 1))]], w0⟩), [])] rfl rfl (all1 (VRd.ntl (rd_mvI rfl)) all0) ?_
            refine dops_rdW [((low0.set q0 ⟨53, 2, [.agg [.vs 1 (List.map (PV.int .u8) p0.l), .int .i64 (IntKind.i64.wrap (p0.at_ + 1))]], w0⟩), [])] rfl rfl (all1 (VRd.ntl (rd_gtr rfl rfl)) all0) ?_
            refine dops_rdW [((low0.set q0 ⟨53, 2, [.agg [.vs 1 (List.map (PV.int .u8) p0.l), .int .i64 (IntKind.i64.wrap (p0.at_ + 1))]], w0⟩), [])] rfl rfl (all1 (VRd.ntl (rd_mvB rfl)) all0) ?_
            refine dops_takeW [((low0.set q0 ⟨53, 2, [.agg [.vs 1 (List.map (PV.int .u8) p0.l), .int .i64 (IntKind.i64.wrap (p0.at_ + 1))]], w0⟩), [])] rfl rfl rfl (congrArg PV.bool c7) (all1 (VRd.ntl (rd_mvP rfl)) all0) ?_
            refine dops_takeW [((low0.set q0 ⟨53, 2, [.agg [.vs 1 (List.map (PV.int .u8) p0.l), .int .i64 (IntKind.i64.wrap (p0.at_ + 1))]], w0⟩), [])] rfl rfl rfl (congrArg PV.bool c7) (all1 (VRd.ntl (rd_nilPtr rfl)) all0) ?_
            refine dops_takeW [((low0.set q0 ⟨53, 2, [.agg [.vs 1 (List.map (PV.int .u8) p0.l), .int .i64 (IntKind.i64.wrap (p0.at_ + 1))]], w0⟩), [])] rfl rfl rfl (congrArg PV.bool c7) (all1 (VRd.ntl (rd_fieldAddr rfl tf_53_1 ts_3 (by decide))) all0) ?_
            refine dops_takeW [((low0.set q0 ⟨53, 2, [.agg [.vs 1 (List.map (PV.int .u8) p0.l), .int .i64 (IntKind.i64.wrap (p0.at_ + 1))]], w0⟩), [])] rfl rfl rfl (congrArg PV.bool c7) (all1 (VRd.ntl (rd_load1 rfl (getO_set hq0) rfl ta_3 rfl)) all0) ?_
            refine dops_takeW [((low0.set q0 ⟨53, 2, [.agg [.vs 1 (List.map (PV.int .u8) p0.l), .int .i64 (IntKind.i64.wrap (p0.at_ + 1))]], w0⟩), [])] rfl rfl rfl (congrArg PV.bool c7) (all1 (VRd.ntl (rd_mvP rfl)) all0) ?_
            refine dops_takeW [((low0.set q0 ⟨53, 2, [.agg [.vs 1 (List.map (PV.int .u8) p0.l), .int .i64 (IntKind.i64.wrap (p0.at_ + 1))]], w0⟩), [])] rfl rfl rfl (congrArg PV.bool c7) (all1 (VRd.ntl (rd_nilPtr rfl)) all0) ?_
            refine dops_takeW [((low0.set q0 ⟨53, 2, [.agg [.vs 1 (List.map (PV.int .u8) p0.l), .int .i64 (IntKind.i64.wrap (p0.at_ + 1))]], w0⟩), [])] rfl rfl rfl (congrArg PV.bool c7) (all1 (VRd.ntl (rd_fieldAddr rfl tf_53_0 ts_22 (by decide))) all0) ?_
            refine dops_takeW [((low0.set q0 ⟨53, 2, [.agg [.vs 1 (List.map (PV.int .u8) p0.l), .int .i64 (IntKind.i64.wrap (p0.at_ + 1))]], w0⟩), [])] rfl rfl rfl (congrArg PV.bool c7) (all1 (VRd.ntl (rd_load1 rfl (getO_set hq0) rfl ta_22 rfl)) all0) ?_
            refine dops_takeW [((low0.set q0 ⟨53, 2, [.agg [.vs 1 (List.map (PV.int .u8) p0.l), .int .i64 (IntKind.i64.wrap (p0.at_ + 1))]], w0⟩), [])] rfl rfl rfl (congrArg PV.bool c7) (all1 (VRd.ntl (rd_to (rd_lenV rfl rfl te_22) (congrArg (fun n : Nat => PV.int .i64 (n : Int)) (List.length_map _)))) all0) ?_
            refine dops_takeW [((low0.set q0 ⟨53, 2, [.agg [.vs 1 (List.map (PV.int .u8) p0.l), .int .i64 (IntKind.i64.wrap (p0.at_ + 1))]], w0⟩), [])] rfl rfl rfl (congrArg PV.bool c7) (all1 (VRd.ntl (rd_lss rfl rfl)) all0) ?_
            refine dops_rdW [((low0.set q0 ⟨53, 2, [.agg [.vs 1 (List.map (PV.int .u8) p0.l), .int .i64 (IntKind.i64.wrap (p0.at_ + 1))]], w0⟩), [])] rfl rfl (all1 (VRd.ntl (rd_pickT (congrArg PV.bool c7) rfl)) all0) ?_
            refine dops_nil ?_
            obtain rfl := Option.some.inj hF
            refine onlyE ?_
            exact weak_sub ⟨rfl, rfl, rfl, rfl, trivial⟩
          · have hF := bifF c7 hF
            refine vwp_drawn [[], [0], [0, 1], [0, 1, 2], [0, 1, 2, 3], [0, 1, 2, 3, 4], [0, 1, 2, 3, 4, 5], [0, 1, 2], [0, 1, 2, 7], [0, 1, 2, 7, 8], [0, 1, 2, 7, 8, 9], [0, 1, 2, 7, 8, 9, 10], [0, 1, 2, 3, 4, 5, 6, 7, 8, 9, 10, 11], [0, 1, 2, 3, 4, 5, 6, 7, 8, 9, 10, 11, 12]] [false, false, false, false, false, false, false, false, false, false, false, false, false, false] [((low0.set q0 ⟨53, 2, [.agg [.vs 1 (List.map (PV.int .u8) p0.l), .int .i64 (IntKind.i64.wrap (p0.at_ + 1))]], w0⟩), [])] mixed (by kernel_rfl) rfl (lenAll (all1 len_set2 all0)) rfl ((low0.set q0 ⟨53, 2, [.agg [.vs 1 (List.map (PV.int .u8) p0.l), .int .i64 (IntKind.i64.wrap (p0.at_ + 1))]], w0⟩), []) rfl rfl ?_
            refine dops_rdW [((low0.set q0 ⟨53, 2, [.agg [.vs 1 (List.map (PV.int .u8) p0.l), .int .i64 (IntKind.i64.wrap (p0.at_ + 1))]], w0⟩), [])] rfl rfl (all1 (VRd.ntl (rd_mvI rfl)) all0) ?_
            refine dops_rdW [((low0.set q0 ⟨53, 2, [.agg [.vs 1 (List.map (PV.int .u8) p0.l), .int .i64 (IntKind.i64.wrap (p0.at_ + 1))]], w0⟩), [])] rfl rfl (all1 (VRd.ntl (rd_gtr rfl rfl)) all0) ?_
            refine dops_rdW [((low0.set q0 ⟨53, 2, [.agg [.vs 1 (List.map (PV.int .u8) p0.l), .int .i64 (IntKind.i64.wrap (p0.at_ + 1))]], w0⟩), [])] rfl rfl (all1 (VRd.ntl (rd_mvB rfl)) all0) ?_
            refine dops_skip rfl rfl rfl (neF c7) ?_
            refine dops_skip rfl rfl rfl (neF c7) ?_
            refine dops_skip rfl rfl rfl (neF c7) ?_
            refine dops_skip rfl rfl rfl (neF c7) ?_
            refine dops_skip rfl rfl rfl (neF c7) ?_
            refine dops_skip rfl rfl rfl (neF c7) ?_
            refine dops_skip rfl rfl rfl (neF c7) ?_
            refine dops_skip rfl rfl rfl (neF c7) ?_
            refine dops_skip rfl rfl rfl (neF c7) ?_
            refine dops_skip rfl rfl rfl (neF c7) ?_
            refine dops_rdW [((low0.set q0 ⟨53, 2, [.agg [.vs 1 (List.map (PV.int .u8) p0.l), .int .i64 (IntKind.i64.wrap (p0.at_ + 1))]], w0⟩), [])] rfl rfl (all1 (VRd.ntl (rd_pickF (congrArg PV.bool c7) rfl)) all0) ?_
            refine dops_nil ?_
            obtain rfl := Option.some.inj hF
            refine onlyE ?_
            exact weak_sub ⟨rfl, rfl, rfl, rfl, trivial⟩
        · rintro _ _ _ _ ⟨rfl, hw⟩
          refine ⟨_, _, _, hw, ?_⟩
          obtain ⟨o8, ho8, hF⟩ := bnd hF
          refine vwp_monoW (Q' := (fun o8 => OnlyE .normal (fun E' lw lc => Weak E' lw lc [(1, .int .i64 p1), (5, .int .i64 o8.1)] (low0.set q0 ⟨53, 2, [.agg [.vs 1 (List.map (PV.int .u8) p0.l), .int .i64 o8.2]], w0⟩) [])) o8) ?_ ?_
          · replace hF := ho8
            refine vwp_cond rfl (fun c9 => ?_) (fun c9 => ?_)
            · have hF := bifT c9 hF
              refine vwp_seq ?_
              obtain ⟨x10, h11, hF⟩ := bnd hF
              refine vwp_drawn [[], [0], [], [2], [2, 3], [2, 3, 4], [], [6], [6, 7], [6, 7, 8], [2, 3, 4, 5, 6, 7, 8, 9], [2, 3, 4, 5, 6, 7, 8, 9, 10], [2, 3, 4, 5, 6, 7, 8, 9, 10, 11], [0, 1, 2, 3, 4, 5, 6, 7, 8, 9, 10, 11, 12], [0, 1, 2, 3, 4, 5, 6, 7, 8, 9, 10, 11, 12, 13]] [false, false, false, false, false, false, false, false, false, false, false, false, false, false, false] [((low0.set q0 ⟨53, 2, [.agg [.vs 1 (List.map (PV.int .u8) p0.l), .int .i64 (IntKind.i64.wrap (p0.at_ + 1))]], w0⟩), [])] mixed (by kernel_rfl) rfl (lenAll (all1 len_set2 all0)) rfl ((low0.set q0 ⟨53, 2, [.agg [.vs 1 (List.map (PV.int .u8) p0.l), .int .i64 (IntKind.i64.wrap (p0.at_ + 1))]], w0⟩), []) rfl rfl ?_
              refine dops_rdW [((low0.set q0 ⟨53, 2, [.agg [.vs 1 (List.map (PV.int .u8) p0.l), .int .i64 (IntKind.i64.wrap (p0.at_ + 1))]], w0⟩), [])] rfl rfl (all1 (VRd.ntl (rd_mvI rfl)) all0) ?_
              refine dops_rdW [((low0.set q0 ⟨53, 2, [.agg [.vs 1 (List.map (PV.int .u8) p0.l), .int .i64 (IntKind.i64.wrap (p0.at_ + 1))]], w0⟩), [])] rfl rfl (all1 (VRd.ntl (rd_mul rfl rfl rfl)) all0) ?_
              refine dops_rdW [((low0.set q0 ⟨53, 2, [.agg [.vs 1 (List.map (PV.int .u8) p0.l), .int .i64 (IntKind.i64.wrap (p0.at_ + 1))]], w0⟩), [])] rfl rfl (all1 (VRd.ntl (rd_mvP rfl)) all0) ?_
              refine dops_rdW [((low0.set q0 ⟨53, 2, [.agg [.vs 1 (List.map (PV.int .u8) p0.l), .int .i64 (IntKind.i64.wrap (p0.at_ + 1))]], w0⟩), [])] rfl rfl (all1 (VRd.ntl (rd_nilPtr rfl)) all0) ?_
              refine dops_rdW [((low0.set q0 ⟨53, 2, [.agg [.vs 1 (List.map (PV.int .u8) p0.l), .int .i64 (IntKind.i64.wrap (p0.at_ + 1))]], w0⟩), [])] rfl rfl (all1 (VRd.ntl (rd_fieldAddr rfl tf_53_0 ts_22 (by decide))) all0) ?_
              refine dops_rdW [((low0.set q0 ⟨53, 2, [.agg [.vs 1 (List.map (PV.int .u8) p0.l), .int .i64 (IntKind.i64.wrap (p0.at_ + 1))]], w0⟩), [])] rfl rfl (all1 (VRd.ntl (rd_load1 rfl (getO_set hq0) rfl ta_22 rfl)) all0) ?_
              refine dops_rdW [((low0.set q0 ⟨53, 2, [.agg [.vs 1 (List.map (PV.int .u8) p0.l), .int .i64 (IntKind.i64.wrap (p0.at_ + 1))]], w0⟩), [])] rfl rfl (all1 (VRd.ntl (rd_mvP rfl)) all0) ?_
              refine dops_rdW [((low0.set q0 ⟨53, 2, [.agg [.vs 1 (List.map (PV.int .u8) p0.l), .int .i64 (IntKind.i64.wrap (p0.at_ + 1))]], w0⟩), [])] rfl rfl (all1 (VRd.ntl (rd_nilPtr rfl)) all0) ?_
              refine dops_rdW [((low0.set q0 ⟨53, 2, [.agg [.vs 1 (List.map (PV.int .u8) p0.l), .int .i64 (IntKind.i64.wrap (p0.at_ + 1))]], w0⟩), [])] rfl rfl (all1 (VRd.ntl (rd_fieldAddr rfl tf_53_1 ts_3 (by decide))) all0) ?_
              refine dops_rdW [((low0.set q0 ⟨53, 2, [.agg [.vs 1 (List.map (PV.int .u8) p0.l), .int .i64 (IntKind.i64.wrap (p0.at_ + 1))]], w0⟩), [])] rfl rfl (all1 (VRd.ntl (rd_load1 rfl (getO_set hq0) rfl ta_3 rfl)) all0) ?_
              refine dops_rdW [((low0.set q0 ⟨53, 2, [.agg [.vs 1 (List.map (PV.int .u8) p0.l), .int .i64 (IntKind.i64.wrap (p0.at_ + 1))]], w0⟩), [])] rfl rfl (all1 (VRd.ntl (rd_to (rd_ixV rfl rfl h11 te_22 ts_5) (v' := .vptr [.int .u8 x10] 0) rfl)) all0) ?_
              refine dops_rdW [((low0.set q0 ⟨53, 2, [.agg [.vs 1 (List.map (PV.int .u8) p0.l), .int .i64 (IntKind.i64.wrap (p0.at_ + 1))]], w0⟩), [])] rfl rfl (all1 (VRd.ntl (rd_loadV1 rfl ta_5 rfl)) all0) ?_
              refine dops_rdW [((low0.set q0 ⟨53, 2, [.agg [.vs 1 (List.map (PV.int .u8) p0.l), .int .i64 (IntKind.i64.wrap (p0.at_ + 1))]], w0⟩), [])] rfl rfl (all1 (VRd.ntl (rd_conv rfl us_5 ti_3 rfl)) all0) ?_
              refine dops_rdW [((low0.set q0 ⟨53, 2, [.agg [.vs 1 (List.map (PV.int .u8) p0.l), .int .i64 (IntKind.i64.wrap (p0.at_ + 1))]], w0⟩), [])] rfl rfl (all1 (VRd.ntl (rd_add rfl rfl rfl)) all0) ?_
              refine dops_rdW [((low0.set q0 ⟨53, 2, [.agg [.vs 1 (List.map (PV.int .u8) p0.l), .int .i64 (IntKind.i64.wrap (p0.at_ + 1))]], w0⟩), [])] rfl rfl (all1 (VRd.ntl (rd_asI rfl)) all0) ?_
              refine dops_nil ?_
              refine vwp_region ?_
              refine vops_rd (rd_mvP rfl) rfl ?_
              refine vops_rd (rd_nilPtr rfl) rfl ?_
              refine vops_rd (rd_fieldAddr rfl tf_53_1 ts_3 (by decide)) rfl ?_
              refine vops_rd (rd_load1 rfl (getO_set hq0) rfl ta_3 rfl) rfl ?_
              refine vops_rd (rd_add rfl rfl rfl) rfl ?_
              refine vops_rd (rd_nilPtr rfl) rfl ?_
              refine vops_rd (rd_fieldAddr rfl tf_53_1 ts_3 (by decide)) rfl ?_
              refine vops_efE (vef_store (p := .int .i64 (IntKind.i64.wrap ((IntKind.i64.wrap (p0.at_ + 1)) + 1))) (e' := .agg [.vs 1 (List.map (PV.int .u8) p0.l), .int .i64 (IntKind.i64.wrap ((IntKind.i64.wrap (p0.at_ + 1)) + 1))]) rfl (getO_set hq0) rfl rfl ts_3 rfl (nt_ne rfl) rfl (Nat.le_of_ble_eq_true rfl) rfl (setO_set hq0 (ltObj_es ⟨(lt_agg ⟨.vs _ _, .int _ _, trivial⟩), trivial⟩))) rfl ?_
              refine vops_nil ?_
              obtain rfl := Option.some.inj hF
              refine onlyE ?_
              exact weak_sub ⟨rfl, rfl, trivial⟩
            · have hF := bifF c9 hF
              refine vwp_skip ?_
              obtain rfl := Option.some.inj hF
              refine onlyE ?_
              exact weak_sub ⟨rfl, rfl, trivial⟩
          · rintro _ _ _ _ ⟨rfl, hw⟩
            refine ⟨_, _, _, hw, ?_⟩
            refine vwp_seq ?_
            refine vwp_region ?_
            obtain ⟨x12, h13, hF⟩ := bnd hF
            refine vops_rd (rd_mvI rfl) rfl ?_
            refine vops_rd (rd_mvI rfl) rfl ?_
            refine vops_rd (rd_rem rfl rfl (remI_some h13).1 (remI_some h13).2) rfl ?_
            refine vops_rd (rd_asI rfl) rfl ?_
            refine vops_nil ?_
            refine vwp_ret ?_
            obtain rfl := Option.some.inj hF
            refine fnR ?_
            exact weak_sub ⟨rfl, trivial⟩
  · rintro _ _ _ _ ⟨he, hw⟩
    refine ⟨_, _, _, hw, ?_⟩
    exact bodyQ_pure he [.int .i64 r.2] ⟨rfl, trivial⟩ (.int _ _) ⟨rfl, rfl⟩

theorem F_draw_Codes_Next_ok {p0 : T_draw_Codes} {p1 : Int} {r : T_draw_Codes × Int} (hF : F_draw_Codes_Next p0 p1 = some r) {low : List AObj} {q0 w0 : Nat} (hq0 : low[q0]? = some ⟨53, 2, [.agg [.vs 1 (List.map (PV.int .u8) p0.l), .int .i64 p0.at_]], w0⟩) :
    VCalls Try.prog 24 [.ptr q0 w0 0 0, .int .i64 p1] low fun x low' => x = .int .i64 r.2 ∧ low' = low.set q0 ⟨53, 2, [.agg [.vs 1 (List.map (PV.int .u8) r.1.l), .int .i64 r.1.at_]], w0⟩ := by
  obtain ⟨h1, h2⟩ := low_set hq0
  have h := F_draw_Codes_Next_ok0 hF (w0 := w0) h1
  rw [← h2] at h
  exact h

theorem F_draw_Codes_Range_ok0 {p0 : T_draw_Codes} {p1 : Int} {p2 : Int} {r : T_draw_Codes × Int} (hF : F_draw_Codes_Range p0 p1 p2 = some r) {low0 : List AObj} {q0 w0 : Nat} (hq0 : q0 < low0.length) :
    VCalls Try.prog 12 [.ptr q0 w0 0 0, .int .i64 p1, .int .i64 p2] (low0.set q0 ⟨53, 2, [.agg [.vs 1 (List.map (PV.int .u8) p0.l), .int .i64 p0.at_]], w0⟩) fun x low' => x = .int .i64 r.2 ∧ low' = low0.set q0 ⟨53, 2, [.agg [.vs 1 (List.map (PV.int .u8) r.1.l), .int .i64 r.1.at_]], w0⟩ := by
  refine vcalls_of_body (nt := 15) (rs := [.tmp 6]) Try.func12 rfl rfl (Nat.le_of_ble_eq_true rfl) rfl ?_
  refine vwp_monoW (Q' := FnE (fun E' lw lc => Weak E' lw lc [(6, .int .i64 r.2)] (low0.set q0 ⟨53, 2, [.agg [.vs 1 (List.map (PV.int .u8) r.1.l), .int .i64 r.1.at_]], w0⟩) [])) ?_ ?_
  · unfold F_draw_Codes_Range at hF
    refine vwp_seq ?_
    refine vwp_region ?_
    refine vops_rd (rd_asI rfl) rfl ?_
    refine vops_nil ?_
    refine vwp_seq ?_
    refine vwp_region ?_
    obtain ⟨x1, h2, hF⟩ := bnd hF
    refine vops_rd (rd_mvI rfl) rfl ?_
    refine vops_rd (rd_mvP rfl) rfl ?_
    refine vops_rd (rd_mvI rfl) rfl ?_
    refine vops_rd (rd_mvI rfl) rfl ?_
    refine vops_rd (rd_sub rfl rfl rfl) rfl ?_
    refine vops_rd (rd_add rfl rfl rfl) rfl ?_
    refine vops_efE (vef_callL hq0 (o' := ⟨53, 2, [.agg [.vs 1 (List.map (PV.int .u8) x1.1.l), .int .i64 x1.1.at_]], w0⟩) (ltObj_es ⟨(lt_agg ⟨.vs _ _, .int _ _, trivial⟩), trivial⟩) rfl Try.call24 (F_draw_Codes_Next_ok h2 (get_low hq0))) rfl ?_
    refine vops_rd (rd_add rfl rfl rfl) rfl ?_
    refine vops_rd (rd_asI rfl) rfl ?_
    refine vops_nil ?_
    refine vwp_ret ?_
    obtain rfl := Option.some.inj hF
    refine fnR ?_
    exact weak_sub ⟨rfl, trivial⟩
  · rintro _ _ _ _ ⟨he, hw⟩
    refine ⟨_, _, _, hw, ?_⟩
    exact bodyQ_pure he [.int .i64 r.2] ⟨rfl, trivial⟩ (.int _ _) ⟨rfl, rfl⟩

theorem F_draw_Codes_Range_ok {p0 : T_draw_Codes} {p1 : Int} {p2 : Int} {r : T_draw_Codes × Int} (hF : F_draw_Codes_Range p0 p1 p2 = some r) {low : List AObj} {q0 w0 : Nat} (hq0 : low[q0]? = some ⟨53, 2, [.agg [.vs 1 (List.map (PV.int .u8) p0.l), .int .i64 p0.at_]], w0⟩) :
    VCalls Try.prog 12 [.ptr q0 w0 0 0, .int .i64 p1, .int .i64 p2] low fun x low' => x = .int .i64 r.2 ∧ low' = low.set q0 ⟨53, 2, [.agg [.vs 1 (List.map (PV.int .u8) r.1.l), .int .i64 r.1.at_]], w0⟩ := by
  obtain ⟨h1, h2⟩ := low_set hq0
  have h := F_draw_Codes_Range_ok0 hF (w0 := w0) h1
  rw [← h2] at h
  exact h

theorem F_draw_Codes_Level_ok0 {p0 : T_draw_Codes} {r : T_draw_Codes × T_Level} (hF : F_draw_Codes_Level p0 = some r) {low0 : List AObj} {q0 w0 : Nat} (hq0 : q0 < low0.length) :
    VCalls Try.prog 10 [.ptr q0 w0 0 0] (low0.set q0 ⟨53, 2, [.agg [.vs 1 (List.map (PV.int .u8) p0.l), .int .i64 p0.at_]], w0⟩) fun x low' => x = .agg [.int .i64 r.2.Cut, .int .i64 r.2.Clear, .int .i64 r.2.Delay] ∧ low' = low0.set q0 ⟨53, 2, [.agg [.vs 1 (List.map (PV.int .u8) r.1.l), .int .i64 r.1.at_]], w0⟩ := by
  refine vcalls_of_body (nt := 15) (rs := [.cell 2 24]) Try.func10 rfl rfl (Nat.le_of_ble_eq_true rfl) rfl ?_
  refine vwp_monoW (Q' := FnE (fun E' lw lc => Weak E' lw lc [(2, .ptr (low0.length + 0) 0 0 0)] (low0.set q0 ⟨53, 2, [.agg [.vs 1 (List.map (PV.int .u8) r.1.l), .int .i64 r.1.at_]], w0⟩) [⟨24, 3, [.agg [.int .i64 r.2.Cut, .int .i64 r.2.Clear, .int .i64 r.2.Delay]], 0⟩])) ?_ ?_
  · unfold F_draw_Codes_Level at hF
    refine vwp_seq ?_
    refine vwp_region ?_
    refine vops_efE (vef_allocN List.length_set rfl tz_24 rfl rfl (Nat.succ_pos _) rfl) rfl ?_
    refine vops_nil ?_
    refine vwp_seq ?_
    refine vwp_region ?_
    obtain ⟨x1, h2, hF⟩ := bnd hF
    obtain ⟨x3, h4, hF⟩ := bnd hF
    refine vops_rd (rd_mvP rfl) rfl ?_
    refine vops_efE (vef_callL hq0 (o' := ⟨53, 2, [.agg [.vs 1 (List.map (PV.int .u8) x1.1.l), .int .i64 x1.1.at_]], w0⟩) (ltObj_es ⟨(lt_agg ⟨.vs _ _, .int _ _, trivial⟩), trivial⟩) rfl Try.call12 (F_draw_Codes_Range_ok h2 (get_low hq0))) rfl ?_
    refine vops_rd (rd_mvP rfl) rfl ?_
    refine vops_efE (vef_callL hq0 (o' := ⟨53, 2, [.agg [.vs 1 (List.map (PV.int .u8) x3.1.l), .int .i64 x3.1.at_]], w0⟩) (ltObj_es ⟨(lt_agg ⟨.vs _ _, .int _ _, trivial⟩), trivial⟩) rfl Try.call24 (F_draw_Codes_Next_ok h4 (get_low hq0))) rfl ?_
    refine vops_rd (rd_build (vs := [(0, .int .i64 x1.2), (2, .int .i64 x3.2)]) (ds := [.int .i64 x1.2, .int .i64 0, .int .i64 x3.2]) tz_24 rfl rfl tp_24 ⟨rfl, rfl, rfl, rfl, trivial⟩ (nt_all2 rfl) rfl) rfl ?_
    refine vops_efE (vef_allocN List.length_set rfl tz_24 rfl rfl (Nat.succ_pos _) rfl) rfl ?_
    refine vops_efE (vef_store (p := .agg [.int .i64 x1.2, .int .i64 0, .int .i64 x3.2]) (e' := .agg [.int .i64 x1.2, .int .i64 0, .int .i64 x3.2]) rfl (getO_N List.length_set rfl) rfl rfl ts_24 rfl (nt_ne rfl) rfl (Nat.le_of_ble_eq_true rfl) rfl (setO_N List.length_set rfl)) rfl ?_
    refine vops_nil ?_
    refine vwp_seq ?_
    refine vwp_region ?_
    obtain ⟨x5, h6, hF⟩ := bnd hF
    refine vops_rd (rd_mvP rfl) rfl ?_
    refine vops_rd (rd_fieldAddr rfl tf_24_0 ts_3 (by decide)) rfl ?_
    refine vops_rd (rd_load1 rfl (getO_N List.length_set rfl) rfl ta_3 rfl) rfl ?_
    refine vops_efE (vef_callL hq0 (o' := ⟨53, 2, [.agg [.vs 1 (List.map (PV.int .u8) x5.1.l), .int .i64 x5.1.at_]], w0⟩) (ltObj_es ⟨(lt_agg ⟨.vs _ _, .int _ _, trivial⟩), trivial⟩) rfl Try.call24 (F_draw_Codes_Next_ok h6 (get_low hq0))) rfl ?_
    refine vops_rd (rd_fieldAddr rfl tf_24_1 ts_3 (by decide)) rfl ?_
    refine vops_efE (vef_store (p := .int .i64 x5.2) (e' := .agg [.int .i64 x1.2, .int .i64 x5.2, .int .i64 x3.2]) rfl (getO_N List.length_set rfl) rfl rfl ts_3 rfl (nt_ne rfl) rfl (Nat.le_of_ble_eq_true rfl) rfl (setO_N List.length_set rfl)) rfl ?_
    refine vops_nil ?_
    refine vwp_seq ?_
    refine vwp_region ?_
    refine vops_rd (rd_loadN (ds := [.int .i64 x1.2, .int .i64 x5.2, .int .i64 x3.2]) rfl (getO_N List.length_set rfl) rfl ta_24 ts_24 rfl rfl rfl) rfl ?_
    refine vops_efE (vef_store (p := .agg [.int .i64 x1.2, .int .i64 x5.2, .int .i64 x3.2]) (e' := .agg [.int .i64 x1.2, .int .i64 x5.2, .int .i64 x3.2]) rfl (getO_N List.length_set rfl) rfl rfl ts_24 rfl (nt_ne rfl) rfl (Nat.le_of_ble_eq_true rfl) rfl (setO_N List.length_set rfl)) rfl ?_
    refine vops_nil ?_
    refine vwp_ret ?_
    obtain rfl := Option.some.inj hF
    refine fnR ?_
    exact weak_pick List.length_set [(0, 0)] (by decide) ⟨rn_ptr 0 0 rfl rfl, trivial⟩ ⟨⟨_, rfl, rfl, .same _ _ _ _ (ltObj_es ⟨(lt_agg ⟨.int _ _, .int _ _, .int _ _, trivial⟩), trivial⟩)⟩, trivial⟩
  · rintro _ _ _ _ ⟨he, hw⟩
    refine ⟨_, _, _, hw, ?_⟩
    exact bodyQ_pure he [.agg [.int .i64 r.2.Cut, .int .i64 r.2.Clear, .int .i64 r.2.Delay]] ⟨rd_loadN rfl (getO_N List.length_set rfl) rfl ta_24 ts_24 rfl rfl rfl, trivial⟩ ((lt_agg ⟨.int _ _, .int _ _, .int _ _, trivial⟩)) ⟨rfl, rfl⟩

theorem F_draw_Codes_Level_ok {p0 : T_draw_Codes} {r : T_draw_Codes × T_Level} (hF : F_draw_Codes_Level p0 = some r) {low : List AObj} {q0 w0 : Nat} (hq0 : low[q0]? = some ⟨53, 2, [.agg [.vs 1 (List.map (PV.int .u8) p0.l), .int .i64 p0.at_]], w0⟩) :
    VCalls Try.prog 10 [.ptr q0 w0 0 0] low fun x low' => x = .agg [.int .i64 r.2.Cut, .int .i64 r.2.Clear, .int .i64 r.2.Delay] ∧ low' = low.set q0 ⟨53, 2, [.agg [.vs 1 (List.map (PV.int .u8) r.1.l), .int .i64 r.1.at_]], w0⟩ := by
  obtain ⟨h1, h2⟩ := low_set hq0
  have h := F_draw_Codes_Level_ok0 hF (w0 := w0) h1
  rw [← h2] at h
  exact h

theorem F_draw_Codes_One_ok0 {p0 : T_draw_Codes} {p1 : Int} {r : T_draw_Codes × Bool} (hF : F_draw_Codes_One p0 p1 = some r) {low0 : List AObj} {q0 w0 : Nat} (hq0 : q0 < low0.length) :
    VCalls Try.prog 11 [.ptr q0 w0 0 0, .int .i64 p1] (low0.set q0 ⟨53, 2, [.agg [.vs 1 (List.map (PV.int .u8) p0.l), .int .i64 p0.at_]], w0⟩) fun x low' => x = .bool r.2 ∧ low' = low0.set q0 ⟨53, 2, [.agg [.vs 1 (List.map (PV.int .u8) r.1.l), .int .i64 r.1.at_]], w0⟩ := by
  refine vcalls_of_body (nt := 11) (rs := [.tmp 4]) Try.func11 rfl rfl (Nat.le_of_ble_eq_true rfl) rfl ?_
  refine vwp_monoW (Q' := FnE (fun E' lw lc => Weak E' lw lc [(4, .bool r.2)] (low0.set q0 ⟨53, 2, [.agg [.vs 1 (List.map (PV.int .u8) r.1.l), .int .i64 r.1.at_]], w0⟩) [])) ?_ ?_
  · unfold F_draw_Codes_One at hF
    refine vwp_seq ?_
    refine vwp_region ?_
    refine vops_rd (rd_asB rfl) rfl ?_
    refine vops_nil ?_
    refine vwp_seq ?_
    refine vwp_region ?_
    obtain ⟨x1, h2, hF⟩ := bnd hF
    refine vops_rd (rd_mvP rfl) rfl ?_
    refine vops_rd (rd_mvI rfl) rfl ?_
    refine vops_efE (vef_callL hq0 (o' := ⟨53, 2, [.agg [.vs 1 (List.map (PV.int .u8) x1.1.l), .int .i64 x1.1.at_]], w0⟩) (ltObj_es ⟨(lt_agg ⟨.vs _ _, .int _ _, trivial⟩), trivial⟩) rfl Try.call24 (F_draw_Codes_Next_ok h2 (get_low hq0))) rfl ?_
    refine vops_rd (rd_mvI rfl) rfl ?_
    refine vops_rd (rd_sub rfl rfl rfl) rfl ?_
    refine vops_rd (rd_eql rfl rfl) rfl ?_
    refine vops_rd (rd_asB rfl) rfl ?_
    refine vops_nil ?_
    refine vwp_ret ?_
    obtain rfl := Option.some.inj hF
    refine fnR ?_
    exact weak_sub ⟨rfl, trivial⟩
  · rintro _ _ _ _ ⟨he, hw⟩
    refine ⟨_, _, _, hw, ?_⟩
    exact bodyQ_pure he [.bool r.2] ⟨rfl, trivial⟩ (.bool _) ⟨rfl, rfl⟩

theorem F_draw_Codes_One_ok {p0 : T_draw_Codes} {p1 : Int} {r : T_draw_Codes × Bool} (hF : F_draw_Codes_One p0 p1 = some r) {low : List AObj} {q0 w0 : Nat} (hq0 : low[q0]? = some ⟨53, 2, [.agg [.vs 1 (List.map (PV.int .u8) p0.l), .int .i64 p0.at_]], w0⟩) :
    VCalls Try.prog 11 [.ptr q0 w0 0 0, .int .i64 p1] low fun x low' => x = .bool r.2 ∧ low' = low.set q0 ⟨53, 2, [.agg [.vs 1 (List.map (PV.int .u8) r.1.l), .int .i64 r.1.at_]], w0⟩ := by
  obtain ⟨h1, h2⟩ := low_set hq0
  have h := F_draw_Codes_One_ok0 hF (w0 := w0) h1
  rw [← h2] at h
  exact h

theorem F_draw_Mod_ok {p0 : Int} {p1 : Int} {r : Int} (hF : F_draw_Mod p0 p1 = some r) (low : List AObj) :
    VCalls Try.prog 13 [.int .i64 p0, .int .i64 p1] low fun x low' => x = .int .i64 r ∧ low' = low := by
  refine vcalls_of_body (nt := 16) (rs := [.tmp 4]) Try.func13 rfl rfl (Nat.le_of_ble_eq_true rfl) rfl ?_
  refine vwp_monoW (Q' := FnE (fun E' lw lc => Weak E' lw lc [(4, .int .i64 r)] low [])) ?_ ?_
  · unfold F_draw_Mod at hF
    refine vwp_seq ?_
    refine vwp_region ?_
    refine vops_rd (rd_asI rfl) rfl ?_
    refine vops_nil ?_
    refine vwp_seq ?_
    refine vwp_seq ?_
    refine vwp_region ?_
    refine vops_rd (rd_mvI rfl) rfl ?_
    refine vops_rd (rd_lss rfl rfl) rfl ?_
    refine vops_nil ?_
    refine vwp_cond rfl (fun c1 => ?_) (fun c1 => ?_)
    · have hF := bifT c1 hF
      refine vwp_seq ?_
      refine vwp_region ?_
      refine vops_rd (rd_asI rfl) rfl ?_
      refine vops_nil ?_
      refine vwp_ret ?_
      obtain rfl := Option.some.inj hF
      refine fnR ?_
      exact weak_sub ⟨rfl, trivial⟩
    · have hF := bifF c1 hF
      refine vwp_skip ?_
      refine vwp_seq ?_
      refine vwp_region ?_
      obtain ⟨x2, h3, hF⟩ := bnd hF
      refine vops_rd (rd_mvI rfl) rfl ?_
      refine vops_rd (rd_mvI rfl) rfl ?_
      refine vops_rd (rd_rem rfl rfl (remI_some h3).1 (remI_some h3).2) rfl ?_
      refine vops_rd (rd_asI rfl) rfl ?_
      refine vops_nil ?_
      refine vwp_seq ?_
      refine vwp_seq ?_
      refine vwp_region ?_
      refine vops_rd (rd_mvI rfl) rfl ?_
      refine vops_rd (rd_lss rfl rfl) rfl ?_
      refine vops_nil ?_
      obtain ⟨o4, ho4, hF⟩ := bnd hF
      refine vwp_monoW (Q' := (fun o4 => OnlyE .normal (fun E' lw lc => Weak E' lw lc [(0, .int .i64 o4)] low [])) o4) ?_ ?_
      · replace hF := ho4
        refine vwp_cond rfl (fun c5 => ?_) (fun c5 => ?_)
        · have hF := bifT c5 hF
          refine vwp_region ?_
          refine vops_rd (rd_mvI rfl) rfl ?_
          refine vops_rd (rd_mvI rfl) rfl ?_
          refine vops_rd (rd_add rfl rfl rfl) rfl ?_
          refine vops_rd (rd_asI rfl) rfl ?_
          refine vops_nil ?_
          obtain rfl := Option.some.inj hF
          refine onlyE ?_
          exact weak_sub ⟨rfl, trivial⟩
        · have hF := bifF c5 hF
          refine vwp_skip ?_
          obtain rfl := Option.some.inj hF
          refine onlyE ?_
          exact weak_sub ⟨rfl, trivial⟩
      · rintro _ _ _ _ ⟨rfl, hw⟩
        refine ⟨_, _, _, hw, ?_⟩
        refine vwp_seq ?_
        refine vwp_region ?_
        refine vops_rd (rd_mvI rfl) rfl ?_
        refine vops_rd (rd_asI rfl) rfl ?_
        refine vops_nil ?_
        refine vwp_ret ?_
        obtain rfl := Option.some.inj hF
        refine fnR ?_
        exact weak_sub ⟨rfl, trivial⟩
  · rintro _ _ _ _ ⟨he, hw⟩
    refine ⟨_, _, _, hw, ?_⟩
    exact bodyQ_pure he [.int .i64 r] ⟨rfl, trivial⟩ (.int _ _) ⟨rfl, rfl⟩

theorem F_level_Begin_ok  {r : T_Watch} (hF : F_level_Begin = some r) (low : List AObj) :
    VCalls Try.prog 14 [] low fun x low' => x = .agg [.bool r.Over, .int .i64 r.Since, .int .i64 r.Last] ∧ low' = low := by
  refine vcalls_of_body (nt := 2) (rs := [.cell 0 26]) Try.func14 rfl rfl (Nat.le_of_ble_eq_true rfl) rfl ?_
  refine vwp_monoW (Q' := FnE (fun E' lw lc => Weak E' lw lc [(0, .ptr (low.length + 0) 0 0 0)] low [⟨26, 3, [.agg [.bool r.Over, .int .i64 r.Since, .int .i64 r.Last]], 0⟩])) ?_ ?_
  · unfold F_level_Begin at hF
    refine vwp_seq ?_
    refine vwp_region ?_
    refine vops_efE (vef_allocN rfl rfl tz_26 rfl rfl (Nat.succ_pos _) rfl) rfl ?_
    refine vops_nil ?_
    refine vwp_seq ?_
    refine vwp_region ?_
    refine vops_rd (rd_build (vs := [(0, .bool true), (1, .int .i64 (-1))]) (ds := [.bool true, .int .i64 (-1), .int .i64 0]) tz_26 rfl rfl tp_26 ⟨rfl, rfl, rfl, rfl, trivial⟩ (nt_all2 rfl) rfl) rfl ?_
    refine vops_efE (vef_store (p := .agg [.bool true, .int .i64 (-1), .int .i64 0]) (e' := .agg [.bool true, .int .i64 (-1), .int .i64 0]) rfl (getO_N rfl rfl) rfl rfl ts_26 rfl (nt_ne rfl) rfl (Nat.le_of_ble_eq_true rfl) rfl (setO_N rfl rfl)) rfl ?_
    refine vops_nil ?_
    refine vwp_ret ?_
    obtain rfl := Option.some.inj hF
    refine fnR ?_
    exact weak_sub ⟨rfl, trivial⟩
  · rintro _ _ _ _ ⟨he, hw⟩
    refine ⟨_, _, _, hw, ?_⟩
    exact bodyQ_pure he [.agg [.bool r.Over, .int .i64 r.Since, .int .i64 r.Last]] ⟨rd_loadN rfl (getO_N rfl rfl) rfl ta_26 ts_26 rfl rfl rfl, trivial⟩ ((lt_agg ⟨.bool _, .int _ _, .int _ _, trivial⟩)) ⟨rfl, rfl⟩

theorem F_level_Check_ok {p0 : T_Level} {r : Int} (hF : F_level_Check p0 = some r) (low : List AObj) :
    VCalls Try.prog 17 [.agg [.int .i64 p0.Cut, .int .i64 p0.Clear, .int .i64 p0.Delay]] low fun x low' => x = .int .i64 r ∧ low' = low := by
  refine vcalls_of_body (nt := 28) (rs := [.tmp 2]) Try.func17 rfl rfl (Nat.le_of_ble_eq_true rfl) rfl ?_
  refine vwp_monoW (Q' := FnE (fun E' lw lc => Weak E' lw lc [(2, .int .i64 r)] low [])) ?_ ?_
  · unfold F_level_Check at hF
    refine vwp_seq ?_
    refine vwp_region ?_
    refine vops_efE (vef_boxN rfl rfl (v := .agg [.int .i64 p0.Cut, .int .i64 p0.Clear, .int .i64 p0.Delay]) rfl rfl (Nat.succ_pos _) rfl rfl) rfl ?_
    refine vops_rd (rd_asI rfl) rfl ?_
    refine vops_nil ?_
    refine vwp_seq ?_
    refine vwp_seq ?_
    obtain ⟨o1, ho1, hF⟩ := bnd hF
    refine vwp_monoW (Q' := (fun o1 => OnlyE .normal (fun E' lw lc => Weak E' lw lc [(27, .bool o1)] low [])) o1) ?_ ?_
    · replace hF := ho1
      refine vwp_region ?_
      rcases Bool.eq_false_or_eq_true (decide (1000000 < p0.Cut)) with c2 | c2
      · have hF := bifT c2 hF
        refine vops_rd (rd_fieldAddr rfl tf_24_0 ts_3 (by decide)) rfl ?_
        refine vops_rd (rd_load1 rfl (getO_N rfl rfl) rfl ta_3 rfl) rfl ?_
        refine vops_rd (rd_gtr rfl rfl) rfl ?_
        refine vops_rd (rd_mvB rfl) rfl ?_
        refine vops_skip rfl rfl (neT c2) rfl ?_
        refine vops_skip rfl rfl (neT c2) rfl ?_
        refine vops_skip rfl rfl (neT c2) rfl ?_
        refine vops_rd (rd_pickT (congrArg PV.bool c2) rfl) rfl ?_
        refine vops_rd (rd_mvB rfl) rfl ?_
        refine vops_skip rfl rfl (by decide) rfl ?_
        refine vops_skip rfl rfl (by decide) rfl ?_
        refine vops_skip rfl rfl (by decide) rfl ?_
        refine vops_skip rfl rfl (by decide) rfl ?_
        refine vops_skip rfl rfl (by decide) rfl ?_
        refine vops_rd (rd_pickT rfl rfl) rfl ?_
        refine vops_rd (rd_mvB rfl) rfl ?_
        refine vops_skip rfl rfl (by decide) rfl ?_
        refine vops_skip rfl rfl (by decide) rfl ?_
        refine vops_skip rfl rfl (by decide) rfl ?_
        refine vops_rd (rd_pickT rfl rfl) rfl ?_
        refine vops_rd (rd_mvB rfl) rfl ?_
        refine vops_skip rfl rfl (by decide) rfl ?_
        refine vops_skip rfl rfl (by decide) rfl ?_
        refine vops_skip rfl rfl (by decide) rfl ?_
        refine vops_rd (rd_pickT rfl rfl) rfl ?_
        refine vops_nil ?_
        obtain rfl := Option.some.inj hF
        refine onlyE ?_
        exact weak_pick rfl [] (by decide) ⟨rn_low rfl (.bool _), trivial⟩ trivial
      · have hF := bifF c2 hF
        rcases Bool.eq_false_or_eq_true (decide (p0.Clear < 0)) with c3 | c3
        · have hF := bifT c3 hF
          refine vops_rd (rd_fieldAddr rfl tf_24_0 ts_3 (by decide)) rfl ?_
          refine vops_rd (rd_load1 rfl (getO_N rfl rfl) rfl ta_3 rfl) rfl ?_
          refine vops_rd (rd_gtr rfl rfl) rfl ?_
          refine vops_rd (rd_mvB rfl) rfl ?_
          refine vops_take rfl (congrArg PV.bool c2) ?_
          refine vops_rd (rd_fieldAddr rfl tf_24_1 ts_3 (by decide)) rfl ?_
          refine vops_take rfl (congrArg PV.bool c2) ?_
          refine vops_rd (rd_load1 rfl (getO_N rfl rfl) rfl ta_3 rfl) rfl ?_
          refine vops_take rfl (congrArg PV.bool c2) ?_
          refine vops_rd (rd_lss rfl rfl) rfl ?_
          refine vops_rd (rd_pickF (congrArg PV.bool c2) rfl) rfl ?_
          refine vops_rd (rd_mvB rfl) rfl ?_
          refine vops_skip rfl rfl (neT c3) rfl ?_
          refine vops_skip rfl rfl (neT c3) rfl ?_
          refine vops_skip rfl rfl (neT c3) rfl ?_
          refine vops_skip rfl rfl (neT c3) rfl ?_
          refine vops_skip rfl rfl (neT c3) rfl ?_
          refine vops_rd (rd_pickT (congrArg PV.bool c3) rfl) rfl ?_
          refine vops_rd (rd_mvB rfl) rfl ?_
          refine vops_skip rfl rfl (by decide) rfl ?_
          refine vops_skip rfl rfl (by decide) rfl ?_
          refine vops_skip rfl rfl (by decide) rfl ?_
          refine vops_rd (rd_pickT rfl rfl) rfl ?_
          refine vops_rd (rd_mvB rfl) rfl ?_
          refine vops_skip rfl rfl (by decide) rfl ?_
          refine vops_skip rfl rfl (by decide) rfl ?_
          refine vops_skip rfl rfl (by decide) rfl ?_
          refine vops_rd (rd_pickT rfl rfl) rfl ?_
          refine vops_nil ?_
          obtain rfl := Option.some.inj hF
          refine onlyE ?_
          exact weak_pick rfl [] (by decide) ⟨rn_low rfl (.bool _), trivial⟩ trivial
        · have hF := bifF c3 hF
          rcases Bool.eq_false_or_eq_true (decide (p0.Cut ≤ p0.Clear)) with c4 | c4
          · have hF := bifT c4 hF
            refine vops_rd (rd_fieldAddr rfl tf_24_0 ts_3 (by decide)) rfl ?_
            refine vops_rd (rd_load1 rfl (getO_N rfl rfl) rfl ta_3 rfl) rfl ?_
            refine vops_rd (rd_gtr rfl rfl) rfl ?_
            refine vops_rd (rd_mvB rfl) rfl ?_
            refine vops_take rfl (congrArg PV.bool c2) ?_
            refine vops_rd (rd_fieldAddr rfl tf_24_1 ts_3 (by decide)) rfl ?_
            refine vops_take rfl (congrArg PV.bool c2) ?_
            refine vops_rd (rd_load1 rfl (getO_N rfl rfl) rfl ta_3 rfl) rfl ?_
            refine vops_take rfl (congrArg PV.bool c2) ?_
            refine vops_rd (rd_lss rfl rfl) rfl ?_
            refine vops_rd (rd_pickF (congrArg PV.bool c2) rfl) rfl ?_
            refine vops_rd (rd_mvB rfl) rfl ?_
            refine vops_take rfl (congrArg PV.bool c3) ?_
            refine vops_rd (rd_fieldAddr rfl tf_24_1 ts_3 (by decide)) rfl ?_
            refine vops_take rfl (congrArg PV.bool c3) ?_
            refine vops_rd (rd_load1 rfl (getO_N rfl rfl) rfl ta_3 rfl) rfl ?_
            refine vops_take rfl (congrArg PV.bool c3) ?_
            refine vops_rd (rd_fieldAddr rfl tf_24_0 ts_3 (by decide)) rfl ?_
            refine vops_take rfl (congrArg PV.bool c3) ?_
            refine vops_rd (rd_load1 rfl (getO_N rfl rfl) rfl ta_3 rfl) rfl ?_
            refine vops_take rfl (congrArg PV.bool c3) ?_
            refine vops_rd (rd_geq rfl rfl) rfl ?_
            refine vops_rd (rd_pickF (congrArg PV.bool c3) rfl) rfl ?_
            refine vops_rd (rd_mvB rfl) rfl ?_
            refine vops_skip rfl rfl (neT c4) rfl ?_
            refine vops_skip rfl rfl (neT c4) rfl ?_
            refine vops_skip rfl rfl (neT c4) rfl ?_
            refine vops_rd (rd_pickT (congrArg PV.bool c4) rfl) rfl ?_
            refine vops_rd (rd_mvB rfl) rfl ?_
            refine vops_skip rfl rfl (by decide) rfl ?_
            refine vops_skip rfl rfl (by decide) rfl ?_
            refine vops_skip rfl rfl (by decide) rfl ?_
            refine vops_rd (rd_pickT rfl rfl) rfl ?_
            refine vops_nil ?_
            obtain rfl := Option.some.inj hF
            refine onlyE ?_
            exact weak_pick rfl [] (by decide) ⟨rn_low rfl (.bool _), trivial⟩ trivial
          · have hF := bifF c4 hF
            rcases Bool.eq_false_or_eq_true (decide (p0.Delay < 0)) with c5 | c5
            · have hF := bifT c5 hF
              refine vops_rd (rd_fieldAddr rfl tf_24_0 ts_3 (by decide)) rfl ?_
              refine vops_rd (rd_load1 rfl (getO_N rfl rfl) rfl ta_3 rfl) rfl ?_
              refine vops_rd (rd_gtr rfl rfl) rfl ?_
              refine vops_rd (rd_mvB rfl) rfl ?_
              refine vops_take rfl (congrArg PV.bool c2) ?_
              refine vops_rd (rd_fieldAddr rfl tf_24_1 ts_3 (by decide)) rfl ?_
              refine vops_take rfl (congrArg PV.bool c2) ?_
              refine vops_rd (rd_load1 rfl (getO_N rfl rfl) rfl ta_3 rfl) rfl ?_
              refine vops_take rfl (congrArg PV.bool c2) ?_
              refine vops_rd (rd_lss rfl rfl) rfl ?_
              refine vops_rd (rd_pickF (congrArg PV.bool c2) rfl) rfl ?_
              refine vops_rd (rd_mvB rfl) rfl ?_
              refine vops_take rfl (congrArg PV.bool c3) ?_
              refine vops_rd (rd_fieldAddr rfl tf_24_1 ts_3 (by decide)) rfl ?_
              refine vops_take rfl (congrArg PV.bool c3) ?_
              refine vops_rd (rd_load1 rfl (getO_N rfl rfl) rfl ta_3 rfl) rfl ?_
              refine vops_take rfl (congrArg PV.bool c3) ?_
              refine vops_rd (rd_fieldAddr rfl tf_24_0 ts_3 (by decide)) rfl ?_
              refine vops_take rfl (congrArg PV.bool c3) ?_
              refine vops_rd (rd_load1 rfl (getO_N rfl rfl) rfl ta_3 rfl) rfl ?_
              refine vops_take rfl (congrArg PV.bool c3) ?_
              refine vops_rd (rd_geq rfl rfl) rfl ?_
              refine vops_rd (rd_pickF (congrArg PV.bool c3) rfl) rfl ?_
              refine vops_rd (rd_mvB rfl) rfl ?_
              refine vops_take rfl (congrArg PV.bool c4) ?_
              refine vops_rd (rd_fieldAddr rfl tf_24_2 ts_3 (by decide)) rfl ?_
              refine vops_take rfl (congrArg PV.bool c4) ?_
              refine vops_rd (rd_load1 rfl (getO_N rfl rfl) rfl ta_3 rfl) rfl ?_
              refine vops_take rfl (congrArg PV.bool c4) ?_
              refine vops_rd (rd_lss rfl rfl) rfl ?_
              refine vops_rd (rd_pickF (congrArg PV.bool c4) rfl) rfl ?_
              refine vops_rd (rd_mvB rfl) rfl ?_
              refine vops_skip rfl rfl (neT c5) rfl ?_
              refine vops_skip rfl rfl (neT c5) rfl ?_
              refine vops_skip rfl rfl (neT c5) rfl ?_
              refine vops_rd (rd_pickT (congrArg PV.bool c5) rfl) rfl ?_
              refine vops_nil ?_
              obtain rfl := Option.some.inj hF
              refine onlyE ?_
              exact weak_pick rfl [] (by decide) ⟨rn_low rfl (.bool _), trivial⟩ trivial
            · have hF := bifF c5 hF
              refine vops_rd (rd_fieldAddr rfl tf_24_0 ts_3 (by decide)) rfl ?_
              refine vops_rd (rd_load1 rfl (getO_N rfl rfl) rfl ta_3 rfl) rfl ?_
              refine vops_rd (rd_gtr rfl rfl) rfl ?_
              refine vops_rd (rd_mvB rfl) rfl ?_
              refine vops_take rfl (congrArg PV.bool c2) ?_
              refine vops_rd (rd_fieldAddr rfl tf_24_1 ts_3 (by decide)) rfl ?_
              refine vops_take rfl (congrArg PV.bool c2) ?_
              refine vops_rd (rd_load1 rfl (getO_N rfl rfl) rfl ta_3 rfl) rfl ?_
              refine vops_take rfl (congrArg PV.bool c2) ?_
              refine vops_rd (rd_lss rfl rfl) rfl ?_
              refine vops_rd (rd_pickF (congrArg PV.bool c2) rfl) rfl ?_
              refine vops_rd (rd_mvB rfl) rfl ?_
              refine vops_take rfl (congrArg PV.bool c3) ?_
              refine vops_rd (rd_fieldAddr rfl tf_24_1 ts_3 (by decide)) rfl ?_
              refine vops_take rfl (congrArg PV.bool c3) ?_
              refine vops_rd (rd_load1 rfl (getO_N rfl rfl) rfl ta_3 rfl) rfl ?_
              refine vops_take rfl (congrArg PV.bool c3) ?_
              refine vops_rd (rd_fieldAddr rfl tf_24_0 ts_3 (by decide)) rfl ?_
              refine vops_take rfl (congrArg PV.bool c3) ?_
              refine vops_rd (rd_load1 rfl (getO_N rfl rfl) rfl ta_3 rfl) rfl ?_
              refine vops_take rfl (congrArg PV.bool c3) ?_
              refine vops_rd (rd_geq rfl rfl) rfl ?_
              refine vops_rd (rd_pickF (congrArg PV.bool c3) rfl) rfl ?_
              refine vops_rd (rd_mvB rfl) rfl ?_
              refine vops_take rfl (congrArg PV.bool c4) ?_
              refine vops_rd (rd_fieldAddr rfl tf_24_2 ts_3 (by decide)) rfl ?_
              refine vops_take rfl (congrArg PV.bool c4) ?_
              refine vops_rd (rd_load1 rfl (getO_N rfl rfl) rfl ta_3 rfl) rfl ?_
              refine vops_take rfl (congrArg PV.bool c4) ?_
              refine vops_rd (rd_lss rfl rfl) rfl ?_
              refine vops_rd (rd_pickF (congrArg PV.bool c4) rfl) rfl ?_
              refine vops_rd (rd_mvB rfl) rfl ?_
              refine vops_take rfl (congrArg PV.bool c5) ?_
              refine vops_rd (rd_fieldAddr rfl tf_24_2 ts_3 (by decide)) rfl ?_
              refine vops_take rfl (congrArg PV.bool c5) ?_
              refine vops_rd (rd_load1 rfl (getO_N rfl rfl) rfl ta_3 rfl) rfl ?_
              refine vops_take rfl (congrArg PV.bool c5) ?_
              refine vops_rd (rd_gtr rfl rfl) rfl ?_
              refine vops_rd (rd_pickF (congrArg PV.bool c5) rfl) rfl ?_
              refine vops_nil ?_
              obtain rfl := Option.some.inj hF
              refine onlyE ?_
              exact weak_pick rfl [] (by decide) ⟨rn_low rfl (.bool _), trivial⟩ trivial
    · rintro _ _ _ _ ⟨rfl, hw⟩
      refine ⟨_, _, _, hw, ?_⟩
      refine vwp_cond rfl (fun c6 => ?_) (fun c6 => ?_)
      · have hF := bifT c6 hF
        refine vwp_seq ?_
        refine vwp_region ?_
        refine vops_rd (rd_asI rfl) rfl ?_
        refine vops_nil ?_
        refine vwp_ret ?_
        obtain rfl := Option.some.inj hF
        refine fnR ?_
        exact weak_sub ⟨rfl, trivial⟩
      · have hF := bifF c6 hF
        refine vwp_skip ?_
        refine vwp_seq ?_
        refine vwp_region ?_
        refine vops_rd (rd_asI rfl) rfl ?_
        refine vops_nil ?_
        refine vwp_ret ?_
        obtain rfl := Option.some.inj hF
        refine fnR ?_
        exact weak_sub ⟨rfl, trivial⟩
  · rintro _ _ _ _ ⟨he, hw⟩
    refine ⟨_, _, _, hw, ?_⟩
    exact bodyQ_pure he [.int .i64 r] ⟨rfl, trivial⟩ (.int _ _) ⟨rfl, rfl⟩

theorem F_window_Above_ok {p0 : T_Span} {p1 : Int} {r : Int} (hF : F_window_Above p0 p1 = some r) (low : List AObj) :
    VCalls Try.prog 25 [.agg [.int .i64 p0.Low, .int .i64 p0.High], .int .i64 p1] low fun x low' => x = .int .i64 r ∧ low' = low := by
  refine vcalls_of_body (nt := 21) (rs := [.tmp 4]) Try.func25 rfl rfl (Nat.le_of_ble_eq_true rfl) rfl ?_
  refine vwp_monoW (Q' := FnE (fun E' lw lc => Weak E' lw lc [(4, .int .i64 r)] low [])) ?_ ?_
  · unfold F_window_Above at hF
    refine vwp_seq ?_
    refine vwp_region ?_
    refine vops_efE (vef_boxN rfl rfl (v := .agg [.int .i64 p0.Low, .int .i64 p0.High]) rfl rfl (Nat.succ_pos _) rfl rfl) rfl ?_
    refine vops_rd (rd_asI rfl) rfl ?_
    refine vops_nil ?_
    refine vwp_seq ?_
    refine vwp_block ?_
    refine vwp_seq ?_
    refine vwp_region ?_
    refine vops_rd (rd_fieldAddr rfl tf_28_0 ts_3 (by decide)) rfl ?_
    refine vops_rd (rd_load1 rfl (getO_N rfl rfl) rfl ta_3 rfl) rfl ?_
    refine vops_rd (rd_fieldAddr rfl tf_28_1 ts_3 (by decide)) rfl ?_
    refine vops_rd (rd_load1 rfl (getO_N rfl rfl) rfl ta_3 rfl) rfl ?_
    refine vops_rd (rd_gtr rfl rfl) rfl ?_
    refine vops_rd (rd_asB rfl) rfl ?_
    refine vops_nil ?_
    refine vwp_cond rfl (fun c1 => ?_) (fun c1 => ?_)
    · have hF := bifT c1 hF
      refine vwp_seq ?_
      refine vwp_region ?_
      refine vops_rd (rd_asI rfl) rfl ?_
      refine vops_nil ?_
      refine vwp_ret ?_
      obtain rfl := Option.some.inj hF
      refine fnR ?_
      exact weak_pick rfl [] (by decide) ⟨rn_low rfl (.int _ _), trivial⟩ trivial
    · have hF := bifF c1 hF
      refine vwp_seq ?_
      refine vwp_region ?_
      refine vops_rd (rd_fieldAddr rfl tf_28_0 ts_3 (by decide)) rfl ?_
      refine vops_rd (rd_load1 rfl (getO_N rfl rfl) rfl ta_3 rfl) rfl ?_
      refine vops_rd (rd_mvI rfl) rfl ?_
      refine vops_rd (rd_geq rfl rfl) rfl ?_
      refine vops_rd (rd_asB rfl) rfl ?_
      refine vops_nil ?_
      refine vwp_cond rfl (fun c2 => ?_) (fun c2 => ?_)
      · have hF := bifT c2 hF
        refine vwp_seq ?_
        refine vwp_region ?_
        refine vops_rd (rd_asI rfl) rfl ?_
        refine vops_nil ?_
        refine vwp_ret ?_
        obtain rfl := Option.some.inj hF
        refine fnR ?_
        exact weak_pick rfl [] (by decide) ⟨rn_low rfl (.int _ _), trivial⟩ trivial
      · have hF := bifF c2 hF
        refine vwp_seq ?_
        refine vwp_region ?_
        refine vops_rd (rd_fieldAddr rfl tf_28_1 ts_3 (by decide)) rfl ?_
        refine vops_rd (rd_load1 rfl (getO_N rfl rfl) rfl ta_3 rfl) rfl ?_
        refine vops_rd (rd_mvI rfl) rfl ?_
        refine vops_rd (rd_lss rfl rfl) rfl ?_
        refine vops_rd (rd_asB rfl) rfl ?_
        refine vops_nil ?_
        refine vwp_cond rfl (fun c3 => ?_) (fun c3 => ?_)
        · have hF := bifT c3 hF
          refine vwp_seq ?_
          refine vwp_region ?_
          refine vops_rd (rd_asI rfl) rfl ?_
          refine vops_nil ?_
          refine vwp_ret ?_
          obtain rfl := Option.some.inj hF
          refine fnR ?_
          exact weak_pick rfl [] (by decide) ⟨rn_low rfl (.int _ _), trivial⟩ trivial
        · have hF := bifF c3 hF
          refine vwp_skip ?_
          refine vwp_seq ?_
          refine vwp_region ?_
          refine vops_rd (rd_asI rfl) rfl ?_
          refine vops_nil ?_
          refine vwp_ret ?_
          obtain rfl := Option.some.inj hF
          refine fnR ?_
          exact weak_pick rfl [] (by decide) ⟨rn_low rfl (.int _ _), trivial⟩ trivial
  · rintro _ _ _ _ ⟨he, hw⟩
    refine ⟨_, _, _, hw, ?_⟩
    exact bodyQ_pure he [.int .i64 r] ⟨rfl, trivial⟩ (.int _ _) ⟨rfl, rfl⟩

theorem F_level_Step_ok {p0 : T_Level} {p1 : T_Watch} {p2 : T_Span} {p3 : Int} {r : T_Watch × Int} (hF : F_level_Step p0 p1 p2 p3 = some r) (low : List AObj) :
    VCalls Try.prog 15 [.agg [.int .i64 p0.Cut, .int .i64 p0.Clear, .int .i64 p0.Delay], .agg [.bool p1.Over, .int .i64 p1.Since, .int .i64 p1.Last], .agg [.int .i64 p2.Low, .int .i64 p2.High], .int .i64 p3] low fun x low' => x = .tup [.agg [.bool r.1.Over, .int .i64 r.1.Since, .int .i64 r.1.Last], .int .i64 r.2] ∧ low' = low := by
  refine vcalls_of_body (nt := 97) (rs := [.cell 8 26, .tmp 9]) Try.func15 rfl rfl (Nat.le_of_ble_eq_true rfl) rfl ?_
  refine vwp_monoW (Q' := FnE (fun E' lw lc => Weak E' lw lc [(8, .ptr (low.length + 0) 0 0 0), (9, .int .i64 r.2)] low [⟨26, 3, [.agg [.bool r.1.Over, .int .i64 r.1.Since, .int .i64 r.1.Last]], 0⟩])) ?_ ?_
  · unfold F_level_Step at hF
    refine vwp_seq ?_
    refine vwp_region ?_
    refine vops_efE (vef_boxN rfl rfl (v := .agg [.int .i64 p0.Cut, .int .i64 p0.Clear, .int .i64 p0.Delay]) rfl rfl (Nat.succ_pos _) rfl rfl) rfl ?_
    refine vops_efE (vef_boxN rfl rfl (v := .agg [.bool p1.Over, .int .i64 p1.Since, .int .i64 p1.Last]) rfl rfl (Nat.succ_pos _) rfl rfl) rfl ?_
    refine vops_efE (vef_boxN rfl rfl (v := .agg [.int .i64 p2.Low, .int .i64 p2.High]) rfl rfl (Nat.succ_pos _) rfl rfl) rfl ?_
    refine vops_efE (vef_allocN rfl rfl tz_26 rfl rfl (Nat.succ_pos _) rfl) rfl ?_
    refine vops_rd (rd_asI rfl) rfl ?_
    refine vops_nil ?_
    refine vwp_seq ?_
    refine vwp_seq ?_
    refine vwp_region ?_
    obtain ⟨x1, h2, hF⟩ := bnd hF
    refine vops_rd (rd_loadN (ds := [.int .i64 p0.Cut, .int .i64 p0.Clear, .int .i64 p0.Delay]) rfl (getO_N rfl rfl) rfl ta_24 ts_24 rfl rfl rfl) rfl ?_
    refine vops_efE (vef_callP rfl Try.call17 (F_level_Check_ok h2 _)) rfl ?_
    refine vops_rd (rd_asI rfl) rfl ?_
    refine vops_nil ?_
    refine vwp_seq ?_
    refine vwp_region ?_
    refine vops_rd (rd_mvI rfl) rfl ?_
    refine vops_rd (rd_neq rfl rfl) rfl ?_
    refine vops_nil ?_
    refine vwp_cond rfl (fun c3 => ?_) (fun c3 => ?_)
    · have hF := bifT c3 hF
      refine vwp_seq ?_
      refine vwp_region ?_
      refine vops_rd (rd_build (vs := []) (ds := [.bool false, .int .i64 0, .int .i64 0]) tz_26 rfl rfl tp_26 trivial (nt_all2 rfl) rfl) rfl ?_
      refine vops_rd (rd_mvI rfl) rfl ?_
      refine vops_efE (vef_store (p := .agg [.bool false, .int .i64 0, .int .i64 0]) (e' := .agg [.bool false, .int .i64 0, .int .i64 0]) rfl (getO_N rfl rfl) rfl rfl ts_26 rfl (nt_ne rfl) rfl (Nat.le_of_ble_eq_true rfl) rfl (setO_N rfl rfl)) rfl ?_
      refine vops_rd (rd_asI rfl) rfl ?_
      refine vops_nil ?_
      refine vwp_ret ?_
      obtain rfl := Option.some.inj hF
      refine fnR ?_
      exact weak_pick rfl [(3, 0)] (by decide) ⟨rn_ptr 0 3 rfl rfl, rn_low rfl (.int _ _), trivial⟩ ⟨⟨_, rfl, rfl, .same _ _ _ _ (ltObj_es ⟨(lt_agg ⟨.bool _, .int _ _, .int _ _, trivial⟩), trivial⟩)⟩, trivial⟩
    · have hF := bifF c3 hF
      refine vwp_skip ?_
      refine vwp_seq ?_
      refine vwp_seq ?_
      obtain ⟨o4, ho4, hF⟩ := bnd hF
      refine vwp_monoW (Q' := (fun o4 => OnlyE .normal (fun E' lw lc => Weak E' lw lc [(3, .int .i64 p3), (4, .ptr (low.length + 0) 0 0 0), (5, .ptr (low.length + 1) 0 0 0), (6, .ptr (low.length + 2) 0 0 0), (8, .ptr (low.length + 3) 0 0 0), (28, .bool o4)] low [⟨24, 3, [.agg [.int .i64 p0.Cut, .int .i64 p0.Clear, .int .i64 p0.Delay]], 0⟩, ⟨26, 3, [.agg [.bool p1.Over, .int .i64 p1.Since, .int .i64 p1.Last]], 0⟩, ⟨28, 2, [.agg [.int .i64 p2.Low, .int .i64 p2.High]], 0⟩, ⟨26, 3, [.agg [.bool false, .int .i64 0, .int .i64 0]], 0⟩])) o4) ?_ ?_
      · replace hF := ho4
        refine vwp_region ?_
        rcases Bool.eq_false_or_eq_true (decide (p3 < 0)) with c5 | c5
        · have hF := bifT c5 hF
          refine vops_rd (rd_mvI rfl) rfl ?_
          refine vops_rd (rd_lss rfl rfl) rfl ?_
          refine vops_rd (rd_mvB rfl) rfl ?_
          refine vops_skip rfl rfl (neT c5) rfl ?_
          refine vops_skip rfl rfl (neT c5) rfl ?_
          refine vops_rd (rd_pickT (congrArg PV.bool c5) rfl) rfl ?_
          refine vops_rd (rd_mvB rfl) rfl ?_
          refine vops_skip rfl rfl (by decide) rfl ?_
          refine vops_skip rfl rfl (by decide) rfl ?_
          refine vops_skip rfl rfl (by decide) rfl ?_
          refine vops_skip rfl rfl (by decide) rfl ?_
          refine vops_rd (rd_pickT rfl rfl) rfl ?_
          refine vops_nil ?_
          obtain rfl := Option.some.inj hF
          refine onlyE ?_
          exact weak_sub ⟨rfl, rfl, rfl, rfl, rfl, rfl, trivial⟩
        · have hF := bifF c5 hF
          rcases Bool.eq_false_or_eq_true (decide (2147483648 < p3)) with c6 | c6
          · have hF := bifT c6 hF
            refine vops_rd (rd_mvI rfl) rfl ?_
            refine vops_rd (rd_lss rfl rfl) rfl ?_
            refine vops_rd (rd_mvB rfl) rfl ?_
            refine vops_take rfl (congrArg PV.bool c5) ?_
            refine vops_rd (rd_mvI rfl) rfl ?_
            refine vops_take rfl (congrArg PV.bool c5) ?_
            refine vops_rd (rd_gtr rfl rfl) rfl ?_
            refine vops_rd (rd_pickF (congrArg PV.bool c5) rfl) rfl ?_
            refine vops_rd (rd_mvB rfl) rfl ?_
            refine vops_skip rfl rfl (neT c6) rfl ?_
            refine vops_skip rfl rfl (neT c6) rfl ?_
            refine vops_skip rfl rfl (neT c6) rfl ?_
            refine vops_skip rfl rfl (neT c6) rfl ?_
            refine vops_rd (rd_pickT (congrArg PV.bool c6) rfl) rfl ?_
            refine vops_nil ?_
            obtain rfl := Option.some.inj hF
            refine onlyE ?_
            exact weak_sub ⟨rfl, rfl, rfl, rfl, rfl, rfl, trivial⟩
          · have hF := bifF c6 hF
            refine vops_rd (rd_mvI rfl) rfl ?_
            refine vops_rd (rd_lss rfl rfl) rfl ?_
            refine vops_rd (rd_mvB rfl) rfl ?_
            refine vops_take rfl (congrArg PV.bool c5) ?_
            refine vops_rd (rd_mvI rfl) rfl ?_
            refine vops_take rfl (congrArg PV.bool c5) ?_
            refine vops_rd (rd_gtr rfl rfl) rfl ?_
            refine vops_rd (rd_pickF (congrArg PV.bool c5) rfl) rfl ?_
            refine vops_rd (rd_mvB rfl) rfl ?_
            refine vops_take rfl (congrArg PV.bool c6) ?_
            refine vops_rd (rd_mvI rfl) rfl ?_
            refine vops_take rfl (congrArg PV.bool c6) ?_
            refine vops_rd (rd_fieldAddr rfl tf_26_2 ts_3 (by decide)) rfl ?_
            refine vops_take rfl (congrArg PV.bool c6) ?_
            refine vops_rd (rd_load1 rfl (getO_N rfl rfl) rfl ta_3 rfl) rfl ?_
            refine vops_take rfl (congrArg PV.bool c6) ?_
            refine vops_rd (rd_lss rfl rfl) rfl ?_
            refine vops_rd (rd_pickF (congrArg PV.bool c6) rfl) rfl ?_
            refine vops_nil ?_
            obtain rfl := Option.some.inj hF
            refine onlyE ?_
            exact weak_sub ⟨rfl, rfl, rfl, rfl, rfl, rfl, trivial⟩
      · rintro _ _ _ _ ⟨rfl, hw⟩
        refine ⟨_, _, _, hw, ?_⟩
        refine vwp_cond rfl (fun c7 => ?_) (fun c7 => ?_)
        · have hF := bifT c7 hF
          refine vwp_seq ?_
          refine vwp_region ?_
          refine vops_rd (rd_build (vs := []) (ds := [.bool false, .int .i64 0, .int .i64 0]) tz_26 rfl rfl tp_26 trivial (nt_all2 rfl) rfl) rfl ?_
          refine vops_efE (vef_store (p := .agg [.bool false, .int .i64 0, .int .i64 0]) (e' := .agg [.bool false, .int .i64 0, .int .i64 0]) rfl (getO_N rfl rfl) rfl rfl ts_26 rfl (nt_ne rfl) rfl (Nat.le_of_ble_eq_true rfl) rfl (setO_N rfl rfl)) rfl ?_
          refine vops_rd (rd_asI rfl) rfl ?_
          refine vops_nil ?_
          refine vwp_ret ?_
          obtain rfl := Option.some.inj hF
          refine fnR ?_
          exact weak_pick rfl [(3, 0)] (by decide) ⟨rn_ptr 0 3 rfl rfl, rn_low rfl (.int _ _), trivial⟩ ⟨⟨_, rfl, rfl, .same _ _ _ _ (ltObj_es ⟨(lt_agg ⟨.bool _, .int _ _, .int _ _, trivial⟩), trivial⟩)⟩, trivial⟩
        · have hF := bifF c7 hF
          refine vwp_skip ?_
          refine vwp_seq ?_
          refine vwp_seq ?_
          obtain ⟨o8, ho8, hF⟩ := bnd hF
          refine vwp_monoW (Q' := (fun o8 => OnlyE .normal (fun E' lw lc => Weak E' lw lc [(3, .int .i64 p3), (4, .ptr (low.length + 0) 0 0 0), (5, .ptr (low.length + 1) 0 0 0), (6, .ptr (low.length + 2) 0 0 0), (8, .ptr (low.length + 3) 0 0 0), (59, .bool o8)] low [⟨24, 3, [.agg [.int .i64 p0.Cut, .int .i64 p0.Clear, .int .i64 p0.Delay]], 0⟩, ⟨26, 3, [.agg [.bool p1.Over, .int .i64 p1.Since, .int .i64 p1.Last]], 0⟩, ⟨28, 2, [.agg [.int .i64 p2.Low, .int .i64 p2.High]], 0⟩, ⟨26, 3, [.agg [.bool false, .int .i64 0, .int .i64 0]], 0⟩])) o8) ?_ ?_
          · replace hF := ho8
            refine vwp_region ?_
            rcases Bool.eq_false_or_eq_true (decide (p1.Last < 0)) with c9 | c9
            · have hF := bifT c9 hF
              refine vops_rd (rd_fieldAddr rfl tf_26_2 ts_3 (by decide)) rfl ?_
              refine vops_rd (rd_load1 rfl (getO_N rfl rfl) rfl ta_3 rfl) rfl ?_
              refine vops_rd (rd_lss rfl rfl) rfl ?_
              refine vops_rd (rd_mvB rfl) rfl ?_
              refine vops_skip rfl rfl (neT c9) rfl ?_
              refine vops_skip rfl rfl (neT c9) rfl ?_
              refine vops_skip rfl rfl (neT c9) rfl ?_
              refine vops_rd (rd_pickT (congrArg PV.bool c9) rfl) rfl ?_
              refine vops_rd (rd_mvB rfl) rfl ?_
              refine vops_skip rfl rfl (by decide) rfl ?_
              refine vops_skip rfl rfl (by decide) rfl ?_
              refine vops_skip rfl rfl (by decide) rfl ?_
              refine vops_rd (rd_pickT rfl rfl) rfl ?_
              refine vops_rd (rd_mvB rfl) rfl ?_
              refine vops_skip rfl rfl (by decide) rfl ?_
              refine vops_skip rfl rfl (by decide) rfl ?_
              refine vops_skip rfl rfl (by decide) rfl ?_
              refine vops_skip rfl rfl (by decide) rfl ?_
              refine vops_skip rfl rfl (by decide) rfl ?_
              refine vops_rd (rd_pickT rfl rfl) rfl ?_
              refine vops_rd (rd_mvB rfl) rfl ?_
              refine vops_skip rfl rfl (by decide) rfl ?_
              refine vops_skip rfl rfl (by decide) rfl ?_
              refine vops_skip rfl rfl (by decide) rfl ?_
              refine vops_skip rfl rfl (by decide) rfl ?_
              refine vops_skipX rfl rfl rfl ?_
              refine vops_skipX rfl rfl rfl ?_
              refine vops_skipX rfl rfl rfl ?_
              refine vops_skip rfl rfl (by decide) rfl ?_
              refine vops_rd (rd_pickT rfl rfl) rfl ?_
              refine vops_nil ?_
              obtain rfl := Option.some.inj hF
              refine onlyE ?_
              exact weak_sub ⟨rfl, rfl, rfl, rfl, rfl, rfl, trivial⟩
            · have hF := bifF c9 hF
              rcases Bool.eq_false_or_eq_true (decide (2147483648 < p1.Last)) with c10 | c10
              · have hF := bifT c10 hF
                refine vops_rd (rd_fieldAddr rfl tf_26_2 ts_3 (by decide)) rfl ?_
                refine vops_rd (rd_load1 rfl (getO_N rfl rfl) rfl ta_3 rfl) rfl ?_
                refine vops_rd (rd_lss rfl rfl) rfl ?_
                refine vops_rd (rd_mvB rfl) rfl ?_
                refine vops_take rfl (congrArg PV.bool c9) ?_
                refine vops_rd (rd_fieldAddr rfl tf_26_2 ts_3 (by decide)) rfl ?_
                refine vops_take rfl (congrArg PV.bool c9) ?_
                refine vops_rd (rd_load1 rfl (getO_N rfl rfl) rfl ta_3 rfl) rfl ?_
                refine vops_take rfl (congrArg PV.bool c9) ?_
                refine vops_rd (rd_gtr rfl rfl) rfl ?_
                refine vops_rd (rd_pickF (congrArg PV.bool c9) rfl) rfl ?_
                refine vops_rd (rd_mvB rfl) rfl ?_
                refine vops_skip rfl rfl (neT c10) rfl ?_
                refine vops_skip rfl rfl (neT c10) rfl ?_
                refine vops_skip rfl rfl (neT c10) rfl ?_
                refine vops_rd (rd_pickT (congrArg PV.bool c10) rfl) rfl ?_
                refine vops_rd (rd_mvB rfl) rfl ?_
                refine vops_skip rfl rfl (by decide) rfl ?_
                refine vops_skip rfl rfl (by decide) rfl ?_
                refine vops_skip rfl rfl (by decide) rfl ?_
                refine vops_skip rfl rfl (by decide) rfl ?_
                refine vops_skip rfl rfl (by decide) rfl ?_
                refine vops_rd (rd_pickT rfl rfl) rfl ?_
                refine vops_rd (rd_mvB rfl) rfl ?_
                refine vops_skip rfl rfl (by decide) rfl ?_
                refine vops_skip rfl rfl (by decide) rfl ?_
                refine vops_skip rfl rfl (by decide) rfl ?_
                refine vops_skip rfl rfl (by decide) rfl ?_
                refine vops_skipX rfl rfl rfl ?_
                refine vops_skipX rfl rfl rfl ?_
                refine vops_skipX rfl rfl rfl ?_
                refine vops_skip rfl rfl (by decide) rfl ?_
                refine vops_rd (rd_pickT rfl rfl) rfl ?_
                refine vops_nil ?_
                obtain rfl := Option.some.inj hF
                refine onlyE ?_
                exact weak_sub ⟨rfl, rfl, rfl, rfl, rfl, rfl, trivial⟩
              · have hF := bifF c10 hF
                rcases Bool.eq_false_or_eq_true (decide (p1.Since < (-1))) with c11 | c11
                · have hF := bifT c11 hF
                  refine vops_rd (rd_fieldAddr rfl tf_26_2 ts_3 (by decide)) rfl ?_
                  refine vops_rd (rd_load1 rfl (getO_N rfl rfl) rfl ta_3 rfl) rfl ?_
                  refine vops_rd (rd_lss rfl rfl) rfl ?_
                  refine vops_rd (rd_mvB rfl) rfl ?_
                  refine vops_take rfl (congrArg PV.bool c9) ?_
                  refine vops_rd (rd_fieldAddr rfl tf_26_2 ts_3 (by decide)) rfl ?_
                  refine vops_take rfl (congrArg PV.bool c9) ?_
                  refine vops_rd (rd_load1 rfl (getO_N rfl rfl) rfl ta_3 rfl) rfl ?_
                  refine vops_take rfl (congrArg PV.bool c9) ?_
                  refine vops_rd (rd_gtr rfl rfl) rfl ?_
                  refine vops_rd (rd_pickF (congrArg PV.bool c9) rfl) rfl ?_
                  refine vops_rd (rd_mvB rfl) rfl ?_
                  refine vops_take rfl (congrArg PV.bool c10) ?_
                  refine vops_rd (rd_fieldAddr rfl tf_26_1 ts_3 (by decide)) rfl ?_
                  refine vops_take rfl (congrArg PV.bool c10) ?_
                  refine vops_rd (rd_load1 rfl (getO_N rfl rfl) rfl ta_3 rfl) rfl ?_
                  refine vops_take rfl (congrArg PV.bool c10) ?_
                  refine vops_rd (rd_lss rfl rfl) rfl ?_
                  refine vops_rd (rd_pickF (congrArg PV.bool c10) rfl) rfl ?_
                  refine vops_rd (rd_mvB rfl) rfl ?_
                  refine vops_skip rfl rfl (neT c11) rfl ?_
                  refine vops_skip rfl rfl (neT c11) rfl ?_
                  refine vops_skip rfl rfl (neT c11) rfl ?_
                  refine vops_skip rfl rfl (neT c11) rfl ?_
                  refine vops_skip rfl rfl (neT c11) rfl ?_
                  refine vops_rd (rd_pickT (congrArg PV.bool c11) rfl) rfl ?_
                  refine vops_rd (rd_mvB rfl) rfl ?_
                  refine vops_skip rfl rfl (by decide) rfl ?_
                  refine vops_skip rfl rfl (by decide) rfl ?_
                  refine vops_skip rfl rfl (by decide) rfl ?_
                  refine vops_skip rfl rfl (by decide) rfl ?_
                  refine vops_skipX rfl rfl rfl ?_
                  refine vops_skipX rfl rfl rfl ?_
                  refine vops_skipX rfl rfl rfl ?_
                  refine vops_skip rfl rfl (by decide) rfl ?_
                  refine vops_rd (rd_pickT rfl rfl) rfl ?_
                  refine vops_nil ?_
                  obtain rfl := Option.some.inj hF
                  refine onlyE ?_
                  exact weak_sub ⟨rfl, rfl, rfl, rfl, rfl, rfl, trivial⟩
                · have hF := bifF c11 hF
                  rcases Bool.eq_false_or_eq_true (decide (p1.Last < p1.Since)) with c12 | c12
                  · have hF := bifT c12 hF
                    refine vops_rd (rd_fieldAddr rfl tf_26_2 ts_3 (by decide)) rfl ?_
                    refine vops_rd (rd_load1 rfl (getO_N rfl rfl) rfl ta_3 rfl) rfl ?_
                    refine vops_rd (rd_lss rfl rfl) rfl ?_
                    refine vops_rd (rd_mvB rfl) rfl ?_
                    refine vops_take rfl (congrArg PV.bool c9) ?_
                    refine vops_rd (rd_fieldAddr rfl tf_26_2 ts_3 (by decide)) rfl ?_
                    refine vops_take rfl (congrArg PV.bool c9) ?_
                    refine vops_rd (rd_load1 rfl (getO_N rfl rfl) rfl ta_3 rfl) rfl ?_
                    refine vops_take rfl (congrArg PV.bool c9) ?_
                    refine vops_rd (rd_gtr rfl rfl) rfl ?_
                    refine vops_rd (rd_pickF (congrArg PV.bool c9) rfl) rfl ?_
                    refine vops_rd (rd_mvB rfl) rfl ?_
                    refine vops_take rfl (congrArg PV.bool c10) ?_
                    refine vops_rd (rd_fieldAddr rfl tf_26_1 ts_3 (by decide)) rfl ?_
                    refine vops_take rfl (congrArg PV.bool c10) ?_
                    refine vops_rd (rd_load1 rfl (getO_N rfl rfl) rfl ta_3 rfl) rfl ?_
                    refine vops_take rfl (congrArg PV.bool c10) ?_
                    refine vops_rd (rd_lss rfl rfl) rfl ?_
                    refine vops_rd (rd_pickF (congrArg PV.bool c10) rfl) rfl ?_
                    refine vops_rd (rd_mvB rfl) rfl ?_
                    refine vops_take rfl (congrArg PV.bool c11) ?_
                    refine vops_rd (rd_fieldAddr rfl tf_26_1 ts_3 (by decide)) rfl ?_
                    refine vops_take rfl (congrArg PV.bool c11) ?_
                    refine vops_rd (rd_load1 rfl (getO_N rfl rfl) rfl ta_3 rfl) rfl ?_
                    refine vops_take rfl (congrArg PV.bool c11) ?_
                    refine vops_rd (rd_fieldAddr rfl tf_26_2 ts_3 (by decide)) rfl ?_
                    refine vops_take rfl (congrArg PV.bool c11) ?_
                    refine vops_rd (rd_load1 rfl (getO_N rfl rfl) rfl ta_3 rfl) rfl ?_
                    refine vops_take rfl (congrArg PV.bool c11) ?_
                    refine vops_rd (rd_gtr rfl rfl) rfl ?_
                    refine vops_rd (rd_pickF (congrArg PV.bool c11) rfl) rfl ?_
                    refine vops_rd (rd_mvB rfl) rfl ?_
                    refine vops_skip rfl rfl (neT c12) rfl ?_
                    refine vops_skip rfl rfl (neT c12) rfl ?_
                    refine vops_skip rfl rfl (neT c12) rfl ?_
                    refine vops_skip rfl rfl (neT c12) rfl ?_
                    refine vops_skipX rfl rfl rfl ?_
                    refine vops_skipX rfl rfl rfl ?_
                    refine vops_skipX rfl rfl rfl ?_
                    refine vops_skip rfl rfl (neT c12) rfl ?_
                    refine vops_rd (rd_pickT (congrArg PV.bool c12) rfl) rfl ?_
                    refine vops_nil ?_
                    obtain rfl := Option.some.inj hF
                    refine onlyE ?_
                    exact weak_sub ⟨rfl, rfl, rfl, rfl, rfl, rfl, trivial⟩
                  · have hF := bifF c12 hF
                    rcases Bool.eq_false_or_eq_true (decide (p1.Since ≠ (-1))) with c13 | c13
                    · have hF := bifT c13 hF
                      refine vops_rd (rd_fieldAddr rfl tf_26_2 ts_3 (by decide)) rfl ?_
                      refine vops_rd (rd_load1 rfl (getO_N rfl rfl) rfl ta_3 rfl) rfl ?_
                      refine vops_rd (rd_lss rfl rfl) rfl ?_
                      refine vops_rd (rd_mvB rfl) rfl ?_
                      refine vops_take rfl (congrArg PV.bool c9) ?_
                      refine vops_rd (rd_fieldAddr rfl tf_26_2 ts_3 (by decide)) rfl ?_
                      refine vops_take rfl (congrArg PV.bool c9) ?_
                      refine vops_rd (rd_load1 rfl (getO_N rfl rfl) rfl ta_3 rfl) rfl ?_
                      refine vops_take rfl (congrArg PV.bool c9) ?_
                      refine vops_rd (rd_gtr rfl rfl) rfl ?_
                      refine vops_rd (rd_pickF (congrArg PV.bool c9) rfl) rfl ?_
                      refine vops_rd (rd_mvB rfl) rfl ?_
                      refine vops_take rfl (congrArg PV.bool c10) ?_
                      refine vops_rd (rd_fieldAddr rfl tf_26_1 ts_3 (by decide)) rfl ?_
                      refine vops_take rfl (congrArg PV.bool c10) ?_
                      refine vops_rd (rd_load1 rfl (getO_N rfl rfl) rfl ta_3 rfl) rfl ?_
                      refine vops_take rfl (congrArg PV.bool c10) ?_
                      refine vops_rd (rd_lss rfl rfl) rfl ?_
                      refine vops_rd (rd_pickF (congrArg PV.bool c10) rfl) rfl ?_
                      refine vops_rd (rd_mvB rfl) rfl ?_
                      refine vops_take rfl (congrArg PV.bool c11) ?_
                      refine vops_rd (rd_fieldAddr rfl tf_26_1 ts_3 (by decide)) rfl ?_
                      refine vops_take rfl (congrArg PV.bool c11) ?_
                      refine vops_rd (rd_load1 rfl (getO_N rfl rfl) rfl ta_3 rfl) rfl ?_
                      refine vops_take rfl (congrArg PV.bool c11) ?_
                      refine vops_rd (rd_fieldAddr rfl tf_26_2 ts_3 (by decide)) rfl ?_
                      refine vops_take rfl (congrArg PV.bool c11) ?_
                      refine vops_rd (rd_load1 rfl (getO_N rfl rfl) rfl ta_3 rfl) rfl ?_
                      refine vops_take rfl (congrArg PV.bool c11) ?_
                      refine vops_rd (rd_gtr rfl rfl) rfl ?_
                      refine vops_rd (rd_pickF (congrArg PV.bool c11) rfl) rfl ?_
                      refine vops_rd (rd_mvB rfl) rfl ?_
                      refine vops_take rfl (congrArg PV.bool c12) ?_
                      refine vops_rd (rd_fieldAddr rfl tf_26_1 ts_3 (by decide)) rfl ?_
                      refine vops_take rfl (congrArg PV.bool c12) ?_
                      refine vops_rd (rd_load1 rfl (getO_N rfl rfl) rfl ta_3 rfl) rfl ?_
                      refine vops_take rfl (congrArg PV.bool c12) ?_
                      refine vops_rd (rd_neq rfl rfl) rfl ?_
                      refine vops_take rfl (congrArg PV.bool c12) ?_
                      refine vops_rd (rd_mvB rfl) rfl ?_
                      refine vops_take rfl (congrArg PV.bool c13) ?_
                      refine vops_rd (rd_fieldAddr rfl tf_26_0 ts_4 (by decide)) rfl ?_
                      refine vops_take rfl (congrArg PV.bool c13) ?_
                      refine vops_rd (rd_load1 rfl (getO_N rfl rfl) rfl ta_4 rfl) rfl ?_
                      refine vops_take rfl (congrArg PV.bool c13) ?_
                      refine vops_rd (rd_not rfl) rfl ?_
                      refine vops_take rfl (congrArg PV.bool c12) ?_
                      refine vops_rd (rd_pickT (congrArg PV.bool c13) rfl) rfl ?_
                      refine vops_rd (rd_pickF (congrArg PV.bool c12) rfl) rfl ?_
                      refine vops_nil ?_
                      obtain rfl := Option.some.inj hF
                      refine onlyE ?_
                      exact weak_sub ⟨rfl, rfl, rfl, rfl, rfl, rfl, trivial⟩
                    · have hF := bifF c13 hF
                      refine vops_rd (rd_fieldAddr rfl tf_26_2 ts_3 (by decide)) rfl ?_
                      refine vops_rd (rd_load1 rfl (getO_N rfl rfl) rfl ta_3 rfl) rfl ?_
                      refine vops_rd (rd_lss rfl rfl) rfl ?_
                      refine vops_rd (rd_mvB rfl) rfl ?_
                      refine vops_take rfl (congrArg PV.bool c9) ?_
                      refine vops_rd (rd_fieldAddr rfl tf_26_2 ts_3 (by decide)) rfl ?_
                      refine vops_take rfl (congrArg PV.bool c9) ?_
                      refine vops_rd (rd_load1 rfl (getO_N rfl rfl) rfl ta_3 rfl) rfl ?_
                      refine vops_take rfl (congrArg PV.bool c9) ?_
                      refine vops_rd (rd_gtr rfl rfl) rfl ?_
                      refine vops_rd (rd_pickF (congrArg PV.bool c9) rfl) rfl ?_
                      refine vops_rd (rd_mvB rfl) rfl ?_
                      refine vops_take rfl (congrArg PV.bool c10) ?_
                      refine vops_rd (rd_fieldAddr rfl tf_26_1 ts_3 (by decide)) rfl ?_
                      refine vops_take rfl (congrArg PV.bool c10) ?_
                      refine vops_rd (rd_load1 rfl (getO_N rfl rfl) rfl ta_3 rfl) rfl ?_
                      refine vops_take rfl (congrArg PV.bool c10) ?_
                      refine vops_rd (rd_lss rfl rfl) rfl ?_
                      refine vops_rd (rd_pickF (congrArg PV.bool c10) rfl) rfl ?_
                      refine vops_rd (rd_mvB rfl) rfl ?_
                      refine vops_take rfl (congrArg PV.bool c11) ?_
                      refine vops_rd (rd_fieldAddr rfl tf_26_1 ts_3 (by decide)) rfl ?_
                      refine vops_take rfl (congrArg PV.bool c11) ?_
                      refine vops_rd (rd_load1 rfl (getO_N rfl rfl) rfl ta_3 rfl) rfl ?_
                      refine vops_take rfl (congrArg PV.bool c11) ?_
                      refine vops_rd (rd_fieldAddr rfl tf_26_2 ts_3 (by decide)) rfl ?_
                      refine vops_take rfl (congrArg PV.bool c11) ?_
                      refine vops_rd (rd_load1 rfl (getO_N rfl rfl) rfl ta_3 rfl) rfl ?_
                      refine vops_take rfl (congrArg PV.bool c11) ?_
                      refine vops_rd (rd_gtr rfl rfl) rfl ?_
                      refine vops_rd (rd_pickF (congrArg PV.bool c11) rfl) rfl ?_
                      refine vops_rd (rd_mvB rfl) rfl ?_
                      refine vops_take rfl (congrArg PV.bool c12) ?_
                      refine vops_rd (rd_fieldAddr rfl tf_26_1 ts_3 (by decide)) rfl ?_
                      refine vops_take rfl (congrArg PV.bool c12) ?_
                      refine vops_rd (rd_load1 rfl (getO_N rfl rfl) rfl ta_3 rfl) rfl ?_
                      refine vops_take rfl (congrArg PV.bool c12) ?_
                      refine vops_rd (rd_neq rfl rfl) rfl ?_
                      refine vops_take rfl (congrArg PV.bool c12) ?_
                      refine vops_rd (rd_mvB rfl) rfl ?_
                      refine vops_skip rfl rfl (neF c13) rfl ?_
                      refine vops_skip rfl rfl (neF c13) rfl ?_
                      refine vops_skip rfl rfl (neF c13) rfl ?_
                      refine vops_take rfl (congrArg PV.bool c12) ?_
                      refine vops_rd (rd_pickF (congrArg PV.bool c13) rfl) rfl ?_
                      refine vops_rd (rd_pickF (congrArg PV.bool c12) rfl) rfl ?_
                      refine vops_nil ?_
                      obtain rfl := Option.some.inj hF
                      refine onlyE ?_
                      exact weak_sub ⟨rfl, rfl, rfl, rfl, rfl, rfl, trivial⟩
          · rintro _ _ _ _ ⟨rfl, hw⟩
            refine ⟨_, _, _, hw, ?_⟩
            refine vwp_cond rfl (fun c14 => ?_) (fun c14 => ?_)
            · have hF := bifT c14 hF
              refine vwp_seq ?_
              refine vwp_region ?_
              refine vops_rd (rd_build (vs := []) (ds := [.bool false, .int .i64 0, .int .i64 0]) tz_26 rfl rfl tp_26 trivial (nt_all2 rfl) rfl) rfl ?_
              refine vops_efE (vef_store (p := .agg [.bool false, .int .i64 0, .int .i64 0]) (e' := .agg [.bool false, .int .i64 0, .int .i64 0]) rfl (getO_N rfl rfl) rfl rfl ts_26 rfl (nt_ne rfl) rfl (Nat.le_of_ble_eq_true rfl) rfl (setO_N rfl rfl)) rfl ?_
              refine vops_rd (rd_asI rfl) rfl ?_
              refine vops_nil ?_
              refine vwp_ret ?_
              obtain rfl := Option.some.inj hF
              refine fnR ?_
              exact weak_pick rfl [(3, 0)] (by decide) ⟨rn_ptr 0 3 rfl rfl, rn_low rfl (.int _ _), trivial⟩ ⟨⟨_, rfl, rfl, .same _ _ _ _ (ltObj_es ⟨(lt_agg ⟨.bool _, .int _ _, .int _ _, trivial⟩), trivial⟩)⟩, trivial⟩
            · have hF := bifF c14 hF
              refine vwp_skip ?_
              refine vwp_seq ?_
              refine vwp_region ?_
              refine vops_rd (rd_mvI rfl) rfl ?_
              refine vops_rd (rd_fieldAddr rfl tf_26_2 ts_3 (by decide)) rfl ?_
              refine vops_efE (vef_store (p := .int .i64 p3) (e' := .agg [.bool p1.Over, .int .i64 p1.Since, .int .i64 p3]) rfl (getO_N rfl rfl) rfl rfl ts_3 rfl (nt_ne rfl) rfl (Nat.le_of_ble_eq_true rfl) rfl (setO_N rfl rfl)) rfl ?_
              refine vops_nil ?_
              refine vwp_seq ?_
              obtain ⟨o15, ho15, hF⟩ := bnd hF
              refine vwp_monoW (Q' := (fun o15 => OnlyE .normal (fun E' lw lc => Weak E' lw lc [(5, .ptr (low.length + 0) 0 0 0), (8, .ptr (low.length + 1) 0 0 0)] low [⟨26, 3, [.agg [.bool o15.Over, .int .i64 o15.Since, .int .i64 o15.Last]], 0⟩, ⟨26, 3, [.agg [.bool false, .int .i64 0, .int .i64 0]], 0⟩])) o15) ?_ ?_
              · replace hF := ho15
                refine vwp_block ?_
                refine vwp_seq ?_
                refine vwp_region ?_
                obtain ⟨x16, h17, hF⟩ := bnd hF
                refine vops_rd (rd_loadN (ds := [.int .i64 p2.Low, .int .i64 p2.High]) rfl (getO_N rfl rfl) rfl ta_28 ts_28 rfl rfl rfl) rfl ?_
                refine vops_rd (rd_fieldAddr rfl tf_24_0 ts_3 (by decide)) rfl ?_
                refine vops_rd (rd_load1 rfl (getO_N rfl rfl) rfl ta_3 rfl) rfl ?_
                refine vops_efE (vef_callP rfl Try.call25 (F_window_Above_ok h17 _)) rfl ?_
                refine vops_rd (rd_neq rfl rfl) rfl ?_
                refine vops_rd (rd_asB rfl) rfl ?_
                refine vops_nil ?_
                refine vwp_cond rfl (fun c18 => ?_) (fun c18 => ?_)
                · have hF := bifT c18 hF
                  refine vwp_region ?_
                  refine vops_rd (rd_fieldAddr rfl tf_26_0 ts_4 (by decide)) rfl ?_
                  refine vops_efE (vef_store (p := .bool true) (e' := .agg [.bool true, .int .i64 p1.Since, .int .i64 p3]) rfl (getO_N rfl rfl) rfl rfl ts_4 rfl (nt_ne rfl) rfl (Nat.le_of_ble_eq_true rfl) rfl (setO_N rfl rfl)) rfl ?_
                  refine vops_rd (rd_fieldAddr rfl tf_26_1 ts_3 (by decide)) rfl ?_
                  refine vops_efE (vef_store (p := .int .i64 (-1)) (e' := .agg [.bool true, .int .i64 (-1), .int .i64 p3]) rfl (getO_N rfl rfl) rfl rfl ts_3 rfl (nt_ne rfl) rfl (Nat.le_of_ble_eq_true rfl) rfl (setO_N rfl rfl)) rfl ?_
                  refine vops_nil ?_
                  obtain rfl := Option.some.inj hF
                  refine onlyE ?_
                  exact weak_pick rfl [(1, 0), (3, 0)] (by decide) ⟨rn_ptr 0 1 rfl rfl, rn_ptr 1 3 rfl rfl, trivial⟩ ⟨⟨_, rfl, rfl, .same _ _ _ _ (ltObj_es ⟨(lt_agg ⟨.bool _, .int _ _, .int _ _, trivial⟩), trivial⟩)⟩, ⟨_, rfl, rfl, .same _ _ _ _ (ltObj_es ⟨(lt_agg ⟨.bool _, .int _ _, .int _ _, trivial⟩), trivial⟩)⟩, trivial⟩
                · have hF := bifF c18 hF
                  refine vwp_seq ?_
                  refine vwp_region ?_
                  refine vops_rd (rd_fieldAddr rfl tf_26_0 ts_4 (by decide)) rfl ?_
                  refine vops_rd (rd_load1 rfl (getO_N rfl rfl) rfl ta_4 rfl) rfl ?_
                  refine vops_rd (rd_not rfl) rfl ?_
                  refine vops_rd (rd_asB rfl) rfl ?_
                  refine vops_nil ?_
                  refine vwp_cond rfl (fun c19 => ?_) (fun c19 => ?_)
                  · have hF := bifT c19 hF
                    refine vwp_skip ?_
                    obtain rfl := Option.some.inj hF
                    refine onlyE ?_
                    exact weak_pick rfl [(1, 0), (3, 0)] (by decide) ⟨rn_ptr 0 1 rfl rfl, rn_ptr 1 3 rfl rfl, trivial⟩ ⟨⟨_, rfl, rfl, .same _ _ _ _ (ltObj_es ⟨(lt_agg ⟨.bool _, .int _ _, .int _ _, trivial⟩), trivial⟩)⟩, ⟨_, rfl, rfl, .same _ _ _ _ (ltObj_es ⟨(lt_agg ⟨.bool _, .int _ _, .int _ _, trivial⟩), trivial⟩)⟩, trivial⟩
                  · have hF := bifF c19 hF
                    refine vwp_seq ?_
                    refine vwp_region ?_
                    refine vops_rd (rd_fieldAddr rfl tf_28_1 ts_3 (by decide)) rfl ?_
                    refine vops_rd (rd_load1 rfl (getO_N rfl rfl) rfl ta_3 rfl) rfl ?_
                    refine vops_rd (rd_fieldAddr rfl tf_24_1 ts_3 (by decide)) rfl ?_
                    refine vops_rd (rd_load1 rfl (getO_N rfl rfl) rfl ta_3 rfl) rfl ?_
                    refine vops_rd (rd_gtr rfl rfl) rfl ?_
                    refine vops_rd (rd_asB rfl) rfl ?_
                    refine vops_nil ?_
                    refine vwp_cond rfl (fun c20 => ?_) (fun c20 => ?_)
                    · have hF := bifT c20 hF
                      refine vwp_region ?_
                      refine vops_rd (rd_fieldAddr rfl tf_26_1 ts_3 (by decide)) rfl ?_
                      refine vops_efE (vef_store (p := .int .i64 (-1)) (e' := .agg [.bool p1.Over, .int .i64 (-1), .int .i64 p3]) rfl (getO_N rfl rfl) rfl rfl ts_3 rfl (nt_ne rfl) rfl (Nat.le_of_ble_eq_true rfl) rfl (setO_N rfl rfl)) rfl ?_
                      refine vops_nil ?_
                      obtain rfl := Option.some.inj hF
                      refine onlyE ?_
                      exact weak_pick rfl [(1, 0), (3, 0)] (by decide) ⟨rn_ptr 0 1 rfl rfl, rn_ptr 1 3 rfl rfl, trivial⟩ ⟨⟨_, rfl, rfl, .same _ _ _ _ (ltObj_es ⟨(lt_agg ⟨.bool _, .int _ _, .int _ _, trivial⟩), trivial⟩)⟩, ⟨_, rfl, rfl, .same _ _ _ _ (ltObj_es ⟨(lt_agg ⟨.bool _, .int _ _, .int _ _, trivial⟩), trivial⟩)⟩, trivial⟩
                    · have hF := bifF c20 hF
                      refine vwp_seq ?_
                      refine vwp_seq ?_
                      refine vwp_region ?_
                      refine vops_rd (rd_fieldAddr rfl tf_26_1 ts_3 (by decide)) rfl ?_
                      refine vops_rd (rd_load1 rfl (getO_N rfl rfl) rfl ta_3 rfl) rfl ?_
                      refine vops_rd (rd_lss rfl rfl) rfl ?_
                      refine vops_nil ?_
                      obtain ⟨o21, ho21, hF⟩ := bnd hF
                      refine vwp_monoW (Q' := (fun o21 => OnlyE .normal (fun E' lw lc => Weak E' lw lc [(3, .int .i64 p3), (4, .ptr (low.length + 0) 0 0 0), (5, .ptr (low.length + 1) 0 0 0), (8, .ptr (low.length + 2) 0 0 0)] low [⟨24, 3, [.agg [.int .i64 p0.Cut, .int .i64 p0.Clear, .int .i64 p0.Delay]], 0⟩, ⟨26, 3, [.agg [.bool p1.Over, .int .i64 o21, .int .i64 p3]], 0⟩, ⟨26, 3, [.agg [.bool false, .int .i64 0, .int .i64 0]], 0⟩])) o21) ?_ ?_
                      · replace hF := ho21
                        refine vwp_cond rfl (fun c22 => ?_) (fun c22 => ?_)
                        · have hF := bifT c22 hF
                          refine vwp_region ?_
                          refine vops_rd (rd_mvI rfl) rfl ?_
                          refine vops_rd (rd_fieldAddr rfl tf_26_1 ts_3 (by decide)) rfl ?_
                          refine vops_efE (vef_store (p := .int .i64 p3) (e' := .agg [.bool p1.Over, .int .i64 p3, .int .i64 p3]) rfl (getO_N rfl rfl) rfl rfl ts_3 rfl (nt_ne rfl) rfl (Nat.le_of_ble_eq_true rfl) rfl (setO_N rfl rfl)) rfl ?_
                          refine vops_nil ?_
                          obtain rfl := Option.some.inj hF
                          refine onlyE ?_
                          exact weak_pick rfl [(0, 0), (1, 0), (3, 0)] (by decide) ⟨rn_low rfl (.int _ _), rn_ptr 0 0 rfl rfl, rn_ptr 1 1 rfl rfl, rn_ptr 2 3 rfl rfl, trivial⟩ ⟨⟨_, rfl, rfl, .same _ _ _ _ (ltObj_es ⟨(lt_agg ⟨.int _ _, .int _ _, .int _ _, trivial⟩), trivial⟩)⟩, ⟨_, rfl, rfl, .same _ _ _ _ (ltObj_es ⟨(lt_agg ⟨.bool _, .int _ _, .int _ _, trivial⟩), trivial⟩)⟩, ⟨_, rfl, rfl, .same _ _ _ _ (ltObj_es ⟨(lt_agg ⟨.bool _, .int _ _, .int _ _, trivial⟩), trivial⟩)⟩, trivial⟩
                        · have hF := bifF c22 hF
                          refine vwp_skip ?_
                          obtain rfl := Option.some.inj hF
                          refine onlyE ?_
                          exact weak_pick rfl [(0, 0), (1, 0), (3, 0)] (by decide) ⟨rn_low rfl (.int _ _), rn_ptr 0 0 rfl rfl, rn_ptr 1 1 rfl rfl, rn_ptr 2 3 rfl rfl, trivial⟩ ⟨⟨_, rfl, rfl, .same _ _ _ _ (ltObj_es ⟨(lt_agg ⟨.int _ _, .int _ _, .int _ _, trivial⟩), trivial⟩)⟩, ⟨_, rfl, rfl, .same _ _ _ _ (ltObj_es ⟨(lt_agg ⟨.bool _, .int _ _, .int _ _, trivial⟩), trivial⟩)⟩, ⟨_, rfl, rfl, .same _ _ _ _ (ltObj_es ⟨(lt_agg ⟨.bool _, .int _ _, .int _ _, trivial⟩), trivial⟩)⟩, trivial⟩
                      · rintro _ _ _ _ ⟨rfl, hw⟩
                        refine ⟨_, _, _, hw, ?_⟩
                        refine vwp_seq ?_
                        refine vwp_region ?_
                        refine vops_rd (rd_mvI rfl) rfl ?_
                        refine vops_rd (rd_fieldAddr rfl tf_26_1 ts_3 (by decide)) rfl ?_
                        refine vops_rd (rd_load1 rfl (getO_N rfl rfl) rfl ta_3 rfl) rfl ?_
                        refine vops_rd (rd_sub rfl rfl rfl) rfl ?_
                        refine vops_rd (rd_fieldAddr rfl tf_24_2 ts_3 (by decide)) rfl ?_
                        refine vops_rd (rd_load1 rfl (getO_N rfl rfl) rfl ta_3 rfl) rfl ?_
                        refine vops_rd (rd_geq rfl rfl) rfl ?_
                        refine vops_nil ?_
                        refine vwp_cond rfl (fun c23 => ?_) (fun c23 => ?_)
                        · have hF := bifT c23 hF
                          refine vwp_region ?_
                          refine vops_rd (rd_fieldAddr rfl tf_26_0 ts_4 (by decide)) rfl ?_
                          refine vops_efE (vef_store (p := .bool false) (e' := .agg [.bool false, .int .i64 o21, .int .i64 p3]) rfl (getO_N rfl rfl) rfl rfl ts_4 rfl (nt_ne rfl) rfl (Nat.le_of_ble_eq_true rfl) rfl (setO_N rfl rfl)) rfl ?_
                          refine vops_rd (rd_fieldAddr rfl tf_26_1 ts_3 (by decide)) rfl ?_
                          refine vops_efE (vef_store (p := .int .i64 (-1)) (e' := .agg [.bool false, .int .i64 (-1), .int .i64 p3]) rfl (getO_N rfl rfl) rfl rfl ts_3 rfl (nt_ne rfl) rfl (Nat.le_of_ble_eq_true rfl) rfl (setO_N rfl rfl)) rfl ?_
                          refine vops_nil ?_
                          obtain rfl := Option.some.inj hF
                          refine onlyE ?_
                          exact weak_pick rfl [(1, 0), (2, 0)] (by decide) ⟨rn_ptr 0 1 rfl rfl, rn_ptr 1 2 rfl rfl, trivial⟩ ⟨⟨_, rfl, rfl, .same _ _ _ _ (ltObj_es ⟨(lt_agg ⟨.bool _, .int _ _, .int _ _, trivial⟩), trivial⟩)⟩, ⟨_, rfl, rfl, .same _ _ _ _ (ltObj_es ⟨(lt_agg ⟨.bool _, .int _ _, .int _ _, trivial⟩), trivial⟩)⟩, trivial⟩
                        · have hF := bifF c23 hF
                          refine vwp_skip ?_
                          obtain rfl := Option.some.inj hF
                          refine onlyE ?_
                          exact weak_pick rfl [(1, 0), (2, 0)] (by decide) ⟨rn_ptr 0 1 rfl rfl, rn_ptr 1 2 rfl rfl, trivial⟩ ⟨⟨_, rfl, rfl, .same _ _ _ _ (ltObj_es ⟨(lt_agg ⟨.bool _, .int _ _, .int _ _, trivial⟩), trivial⟩)⟩, ⟨_, rfl, rfl, .same _ _ _ _ (ltObj_es ⟨(lt_agg ⟨.bool _, .int _ _, .int _ _, trivial⟩), trivial⟩)⟩, trivial⟩
              · rintro _ _ _ _ ⟨rfl, hw⟩
                refine ⟨_, _, _, hw, ?_⟩
                refine vwp_seq ?_
                refine vwp_region ?_
                refine vops_rd (rd_loadN (ds := [.bool o15.Over, .int .i64 o15.Since, .int .i64 o15.Last]) rfl (getO_N rfl rfl) rfl ta_26 ts_26 rfl rfl rfl) rfl ?_
                refine vops_efE (vef_store (p := .agg [.bool o15.Over, .int .i64 o15.Since, .int .i64 o15.Last]) (e' := .agg [.bool o15.Over, .int .i64 o15.Since, .int .i64 o15.Last]) rfl (getO_N rfl rfl) rfl rfl ts_26 rfl (nt_ne rfl) rfl (Nat.le_of_ble_eq_true rfl) rfl (setO_N rfl rfl)) rfl ?_
                refine vops_rd (rd_asI rfl) rfl ?_
                refine vops_nil ?_
                refine vwp_ret ?_
                obtain rfl := Option.some.inj hF
                refine fnR ?_
                exact weak_pick rfl [(1, 0)] (by decide) ⟨rn_ptr 0 1 rfl rfl, rn_low rfl (.int _ _), trivial⟩ ⟨⟨_, rfl, rfl, .same _ _ _ _ (ltObj_es ⟨(lt_agg ⟨.bool _, .int _ _, .int _ _, trivial⟩), trivial⟩)⟩, trivial⟩
  · rintro _ _ _ _ ⟨he, hw⟩
    refine ⟨_, _, _, hw, ?_⟩
    exact bodyQ_pure he [.agg [.bool r.1.Over, .int .i64 r.1.Since, .int .i64 r.1.Last], .int .i64 r.2] ⟨rd_loadN rfl (getO_N rfl rfl) rfl ta_26 ts_26 rfl rfl rfl, rfl, trivial⟩ ((lt_tup ⟨(lt_agg ⟨.bool _, .int _ _, .int _ _, trivial⟩), .int _ _, trivial⟩)) ⟨rfl, rfl⟩

theorem F_ref17_Check_ok {p0 : T_Level} {r : Int} (hF : F_ref17_Check p0 = some r) (low : List AObj) :
    VCalls Try.prog 18 [.agg [.int .i64 p0.Cut, .int .i64 p0.Clear, .int .i64 p0.Delay]] low fun x low' => x = .int .i64 r ∧ low' = low := by
  refine vcalls_of_body (nt := 28) (rs := [.tmp 2]) Try.func18 rfl rfl (Nat.le_of_ble_eq_true rfl) rfl ?_
  refine vwp_monoW (Q' := FnE (fun E' lw lc => Weak E' lw lc [(2, .int .i64 r)] low [])) ?_ ?_
  · unfold F_ref17_Check at hF
    refine vwp_seq ?_
    refine vwp_region ?_
    refine vops_efE (vef_boxN rfl rfl (v := .agg [.int .i64 p0.Cut, .int .i64 p0.Clear, .int .i64 p0.Delay]) rfl rfl (Nat.succ_pos _) rfl rfl) rfl ?_
    refine vops_rd (rd_asI rfl) rfl ?_
    refine vops_nil ?_
    refine vwp_seq ?_
    refine vwp_seq ?_
    obtain ⟨o1, ho1, hF⟩ := bnd hF
    refine vwp_monoW (Q' := (fun o1 => OnlyE .normal (fun E' lw lc => Weak E' lw lc [(27, .bool o1)] low [])) o1) ?_ ?_
    · replace hF := ho1
      refine vwp_region ?_
      rcases Bool.eq_false_or_eq_true (decide (p0.Clear < 0)) with c2 | c2
      · have hF := bifT c2 hF
        refine vops_rd (rd_fieldAddr rfl tf_24_1 ts_3 (by decide)) rfl ?_
        refine vops_rd (rd_load1 rfl (getO_N rfl rfl) rfl ta_3 rfl) rfl ?_
        refine vops_rd (rd_lss rfl rfl) rfl ?_
        refine vops_rd (rd_mvB rfl) rfl ?_
        refine vops_skip rfl rfl (neT c2) rfl ?_
        refine vops_skip rfl rfl (neT c2) rfl ?_
        refine vops_skip rfl rfl (neT c2) rfl ?_
        refine vops_skip rfl rfl (neT c2) rfl ?_
        refine vops_skip rfl rfl (neT c2) rfl ?_
        refine vops_rd (rd_pickT (congrArg PV.bool c2) rfl) rfl ?_
        refine vops_rd (rd_mvB rfl) rfl ?_
        refine vops_skip rfl rfl (by decide) rfl ?_
        refine vops_skip rfl rfl (by decide) rfl ?_
        refine vops_skip rfl rfl (by decide) rfl ?_
        refine vops_rd (rd_pickT rfl rfl) rfl ?_
        refine vops_rd (rd_mvB rfl) rfl ?_
        refine vops_skip rfl rfl (by decide) rfl ?_
        refine vops_skip rfl rfl (by decide) rfl ?_
        refine vops_skip rfl rfl (by decide) rfl ?_
        refine vops_rd (rd_pickT rfl rfl) rfl ?_
        refine vops_rd (rd_mvB rfl) rfl ?_
        refine vops_skip rfl rfl (by decide) rfl ?_
        refine vops_skip rfl rfl (by decide) rfl ?_
        refine vops_skip rfl rfl (by decide) rfl ?_
        refine vops_rd (rd_pickT rfl rfl) rfl ?_
        refine vops_nil ?_
        obtain rfl := Option.some.inj hF
        refine onlyE ?_
        exact weak_pick rfl [] (by decide) ⟨rn_low rfl (.bool _), trivial⟩ trivial
      · have hF := bifF c2 hF
        rcases Bool.eq_false_or_eq_true (decide (p0.Cut ≤ p0.Clear)) with c3 | c3
        · have hF := bifT c3 hF
          refine vops_rd (rd_fieldAddr rfl tf_24_1 ts_3 (by decide)) rfl ?_
          refine vops_rd (rd_load1 rfl (getO_N rfl rfl) rfl ta_3 rfl) rfl ?_
          refine vops_rd (rd_lss rfl rfl) rfl ?_
          refine vops_rd (rd_mvB rfl) rfl ?_
          refine vops_take rfl (congrArg PV.bool c2) ?_
          refine vops_rd (rd_fieldAddr rfl tf_24_1 ts_3 (by decide)) rfl ?_
          refine vops_take rfl (congrArg PV.bool c2) ?_
          refine vops_rd (rd_load1 rfl (getO_N rfl rfl) rfl ta_3 rfl) rfl ?_
          refine vops_take rfl (congrArg PV.bool c2) ?_
          refine vops_rd (rd_fieldAddr rfl tf_24_0 ts_3 (by decide)) rfl ?_
          refine vops_take rfl (congrArg PV.bool c2) ?_
          refine vops_rd (rd_load1 rfl (getO_N rfl rfl) rfl ta_3 rfl) rfl ?_
          refine vops_take rfl (congrArg PV.bool c2) ?_
          refine vops_rd (rd_geq rfl rfl) rfl ?_
          refine vops_rd (rd_pickF (congrArg PV.bool c2) rfl) rfl ?_
          refine vops_rd (rd_mvB rfl) rfl ?_
          refine vops_skip rfl rfl (neT c3) rfl ?_
          refine vops_skip rfl rfl (neT c3) rfl ?_
          refine vops_skip rfl rfl (neT c3) rfl ?_
          refine vops_rd (rd_pickT (congrArg PV.bool c3) rfl) rfl ?_
          refine vops_rd (rd_mvB rfl) rfl ?_
          refine vops_skip rfl rfl (by decide) rfl ?_
          refine vops_skip rfl rfl (by decide) rfl ?_
          refine vops_skip rfl rfl (by decide) rfl ?_
          refine vops_rd (rd_pickT rfl rfl) rfl ?_
          refine vops_rd (rd_mvB rfl) rfl ?_
          refine vops_skip rfl rfl (by decide) rfl ?_
          refine vops_skip rfl rfl (by decide) rfl ?_
          refine vops_skip rfl rfl (by decide) rfl ?_
          refine vops_rd (rd_pickT rfl rfl) rfl ?_
          refine vops_nil ?_
          obtain rfl := Option.some.inj hF
          refine onlyE ?_
          exact weak_pick rfl [] (by decide) ⟨rn_low rfl (.bool _), trivial⟩ trivial
        · have hF := bifF c3 hF
          rcases Bool.eq_false_or_eq_true (decide (1000000 < p0.Cut)) with c4 | c4
          · have hF := bifT c4 hF
            refine vops_rd (rd_fieldAddr rfl tf_24_1 ts_3 (by decide)) rfl ?_
            refine vops_rd (rd_load1 rfl (getO_N rfl rfl) rfl ta_3 rfl) rfl ?_
            refine vops_rd (rd_lss rfl rfl) rfl ?_
            refine vops_rd (rd_mvB rfl) rfl ?_
            refine vops_take rfl (congrArg PV.bool c2) ?_
            refine vops_rd (rd_fieldAddr rfl tf_24_1 ts_3 (by decide)) rfl ?_
            refine vops_take rfl (congrArg PV.bool c2) ?_
            refine vops_rd (rd_load1 rfl (getO_N rfl rfl) rfl ta_3 rfl) rfl ?_
            refine vops_take rfl (congrArg PV.bool c2) ?_
            refine vops_rd (rd_fieldAddr rfl tf_24_0 ts_3 (by decide)) rfl ?_
            refine vops_take rfl (congrArg PV.bool c2) ?_
            refine vops_rd (rd_load1 rfl (getO_N rfl rfl) rfl ta_3 rfl) rfl ?_
            refine vops_take rfl (congrArg PV.bool c2) ?_
            refine vops_rd (rd_geq rfl rfl) rfl ?_
            refine vops_rd (rd_pickF (congrArg PV.bool c2) rfl) rfl ?_
            refine vops_rd (rd_mvB rfl) rfl ?_
            refine vops_take rfl (congrArg PV.bool c3) ?_
            refine vops_rd (rd_fieldAddr rfl tf_24_0 ts_3 (by decide)) rfl ?_
            refine vops_take rfl (congrArg PV.bool c3) ?_
            refine vops_rd (rd_load1 rfl (getO_N rfl rfl) rfl ta_3 rfl) rfl ?_
            refine vops_take rfl (congrArg PV.bool c3) ?_
            refine vops_rd (rd_gtr rfl rfl) rfl ?_
            refine vops_rd (rd_pickF (congrArg PV.bool c3) rfl) rfl ?_
            refine vops_rd (rd_mvB rfl) rfl ?_
            refine vops_skip rfl rfl (neT c4) rfl ?_
            refine vops_skip rfl rfl (neT c4) rfl ?_
            refine vops_skip rfl rfl (neT c4) rfl ?_
            refine vops_rd (rd_pickT (congrArg PV.bool c4) rfl) rfl ?_
            refine vops_rd (rd_mvB rfl) rfl ?_
            refine vops_skip rfl rfl (by decide) rfl ?_
            refine vops_skip rfl rfl (by decide) rfl ?_
            refine vops_skip rfl rfl (by decide) rfl ?_
            refine vops_rd (rd_pickT rfl rfl) rfl ?_
            refine vops_nil ?_
            obtain rfl := Option.some.inj hF
            refine onlyE ?_
            exact weak_pick rfl [] (by decide) ⟨rn_low rfl (.bool _), trivial⟩ trivial
          · have hF := bifF c4 hF
            rcases Bool.eq_false_or_eq_true (decide (p0.Delay < 0)) with c5 | c5
            · have hF := bifT c5 hF
              refine vops_rd (rd_fieldAddr rfl tf_24_1 ts_3 (by decide)) rfl ?_
              refine vops_rd (rd_load1 rfl (getO_N rfl rfl) rfl ta_3 rfl) rfl ?_
              refine vops_rd (rd_lss rfl rfl) rfl ?_
              refine vops_rd (rd_mvB rfl) rfl ?_
              refine vops_take rfl (congrArg PV.bool c2) ?_
              refine vops_rd (rd_fieldAddr rfl tf_24_1 ts_3 (by decide)) rfl ?_
              refine vops_take rfl (congrArg PV.bool c2) ?_
              refine vops_rd (rd_load1 rfl (getO_N rfl rfl) rfl ta_3 rfl) rfl ?_
              refine vops_take rfl (congrArg PV.bool c2) ?_
              refine vops_rd (rd_fieldAddr rfl tf_24_0 ts_3 (by decide)) rfl ?_
              refine vops_take rfl (congrArg PV.bool c2) ?_
              refine vops_rd (rd_load1 rfl (getO_N rfl rfl) rfl ta_3 rfl) rfl ?_
              refine vops_take rfl (congrArg PV.bool c2) ?_
              refine vops_rd (rd_geq rfl rfl) rfl ?_
              refine vops_rd (rd_pickF (congrArg PV.bool c2) rfl) rfl ?_
              refine vops_rd (rd_mvB rfl) rfl ?_
              refine vops_take rfl (congrArg PV.bool c3) ?_
              refine vops_rd (rd_fieldAddr rfl tf_24_0 ts_3 (by decide)) rfl ?_
              refine vops_take rfl (congrArg PV.bool c3) ?_
              refine vops_rd (rd_load1 rfl (getO_N rfl rfl) rfl ta_3 rfl) rfl ?_
              refine vops_take rfl (congrArg PV.bool c3) ?_
              refine vops_rd (rd_gtr rfl rfl) rfl ?_
              refine vops_rd (rd_pickF (congrArg PV.bool c3) rfl) rfl ?_
              refine vops_rd (rd_mvB rfl) rfl ?_
              refine vops_take rfl (congrArg PV.bool c4) ?_
              refine vops_rd (rd_fieldAddr rfl tf_24_2 ts_3 (by decide)) rfl ?_
              refine vops_take rfl (congrArg PV.bool c4) ?_
              refine vops_rd (rd_load1 rfl (getO_N rfl rfl) rfl ta_3 rfl) rfl ?_
              refine vops_take rfl (congrArg PV.bool c4) ?_
              refine vops_rd (rd_lss rfl rfl) rfl ?_
              refine vops_rd (rd_pickF (congrArg PV.bool c4) rfl) rfl ?_
              refine vops_rd (rd_mvB rfl) rfl ?_
              refine vops_skip rfl rfl (neT c5) rfl ?_
              refine vops_skip rfl rfl (neT c5) rfl ?_
              refine vops_skip rfl rfl (neT c5) rfl ?_
              refine vops_rd (rd_pickT (congrArg PV.bool c5) rfl) rfl ?_
              refine vops_nil ?_
              obtain rfl := Option.some.inj hF
              refine onlyE ?_
              exact weak_pick rfl [] (by decide) ⟨rn_low rfl (.bool _), trivial⟩ trivial
            · have hF := bifF c5 hF
              refine vops_rd (rd_fieldAddr rfl tf_24_1 ts_3 (by decide)) rfl ?_
              refine vops_rd (rd_load1 rfl (getO_N rfl rfl) rfl ta_3 rfl) rfl ?_
              refine vops_rd (rd_lss rfl rfl) rfl ?_
              refine vops_rd (rd_mvB rfl) rfl ?_
              refine vops_take rfl (congrArg PV.bool c2) ?_
              refine vops_rd (rd_fieldAddr rfl tf_24_1 ts_3 (by decide)) rfl ?_
              refine vops_take rfl (congrArg PV.bool c2) ?_
              refine vops_rd (rd_load1 rfl (getO_N rfl rfl) rfl ta_3 rfl) rfl ?_
              refine vops_take rfl (congrArg PV.bool c2) ?_
              refine vops_rd (rd_fieldAddr rfl tf_24_0 ts_3 (by decide)) rfl ?_
              refine vops_take rfl (congrArg PV.bool c2) ?_
              refine vops_rd (rd_load1 rfl (getO_N rfl rfl) rfl ta_3 rfl) rfl ?_
              refine vops_take rfl (congrArg PV.bool c2) ?_
              refine vops_rd (rd_geq rfl rfl) rfl ?_
              refine vops_rd (rd_pickF (congrArg PV.bool c2) rfl) rfl ?_
              refine vops_rd (rd_mvB rfl) rfl ?_
              refine vops_take rfl (congrArg PV.bool c3) ?_
              refine vops_rd (rd_fieldAddr rfl tf_24_0 ts_3 (by decide)) rfl ?_
              refine vops_take rfl (congrArg PV.bool c3) ?_
              refine vops_rd (rd_load1 rfl (getO_N rfl rfl) rfl ta_3 rfl) rfl ?_
              refine vops_take rfl (congrArg PV.bool c3) ?_
              refine vops_rd (rd_gtr rfl rfl) rfl ?_
              refine vops_rd (rd_pickF (congrArg PV.bool c3) rfl) rfl ?_
              refine vops_rd (rd_mvB rfl) rfl ?_
              refine vops_take rfl (congrArg PV.bool c4) ?_
              refine vops_rd (rd_fieldAddr rfl tf_24_2 ts_3 (by decide)) rfl ?_
              refine vops_take rfl (congrArg PV.bool c4) ?_
              refine vops_rd (rd_load1 rfl (getO_N rfl rfl) rfl ta_3 rfl) rfl ?_
              refine vops_take rfl (congrArg PV.bool c4) ?_
              refine vops_rd (rd_lss rfl rfl) rfl ?_
              refine vops_rd (rd_pickF (congrArg PV.bool c4) rfl) rfl ?_
              refine vops_rd (rd_mvB rfl) rfl ?_
              refine vops_take rfl (congrArg PV.bool c5) ?_
              refine vops_rd (rd_fieldAddr rfl tf_24_2 ts_3 (by decide)) rfl ?_
              refine vops_take rfl (congrArg PV.bool c5) ?_
              refine vops_rd (rd_load1 rfl (getO_N rfl rfl) rfl ta_3 rfl) rfl ?_
              refine vops_take rfl (congrArg PV.bool c5) ?_
              refine vops_rd (rd_gtr rfl rfl) rfl ?_
              refine vops_rd (rd_pickF (congrArg PV.bool c5) rfl) rfl ?_
              refine vops_nil ?_
              obtain rfl := Option.some.inj hF
              refine onlyE ?_
              exact weak_pick rfl [] (by decide) ⟨rn_low rfl (.bool _), trivial⟩ trivial
    · rintro _ _ _ _ ⟨rfl, hw⟩
      refine ⟨_, _, _, hw, ?_⟩
      refine vwp_cond rfl (fun c6 => ?_) (fun c6 => ?_)
      · have hF := bifT c6 hF
        refine vwp_seq ?_
        refine vwp_region ?_
        refine vops_rd (rd_asI rfl) rfl ?_
        refine vops_nil ?_
        refine vwp_ret ?_
        obtain rfl := Option.some.inj hF
        refine fnR ?_
        exact weak_sub ⟨rfl, trivial⟩
      · have hF := bifF c6 hF
        refine vwp_skip ?_
        refine vwp_seq ?_
        refine vwp_region ?_
        refine vops_rd (rd_asI rfl) rfl ?_
        refine vops_nil ?_
        refine vwp_ret ?_
        obtain rfl := Option.some.inj hF
        refine fnR ?_
        exact weak_sub ⟨rfl, trivial⟩
  · rintro _ _ _ _ ⟨he, hw⟩
    refine ⟨_, _, _, hw, ?_⟩
    exact bodyQ_pure he [.int .i64 r] ⟨rfl, trivial⟩ (.int _ _) ⟨rfl, rfl⟩

theorem F_ref06_Above_ok {p0 : T_Span} {p1 : Int} {r : Int} (hF : F_ref06_Above p0 p1 = some r) (low : List AObj) :
    VCalls Try.prog 26 [.agg [.int .i64 p0.Low, .int .i64 p0.High], .int .i64 p1] low fun x low' => x = .int .i64 r ∧ low' = low := by
  refine vcalls_of_body (nt := 18) (rs := [.tmp 4]) Try.func26 rfl rfl (Nat.le_of_ble_eq_true rfl) rfl ?_
  refine vwp_monoW (Q' := FnE (fun E' lw lc => Weak E' lw lc [(4, .int .i64 r)] low [])) ?_ ?_
  · unfold F_ref06_Above at hF
    refine vwp_seq ?_
    refine vwp_region ?_
    refine vops_efE (vef_boxN rfl rfl (v := .agg [.int .i64 p0.Low, .int .i64 p0.High]) rfl rfl (Nat.succ_pos _) rfl rfl) rfl ?_
    refine vops_rd (rd_asI rfl) rfl ?_
    refine vops_nil ?_
    refine vwp_seq ?_
    refine vwp_seq ?_
    refine vwp_region ?_
    refine vops_rd (rd_fieldAddr rfl tf_28_0 ts_3 (by decide)) rfl ?_
    refine vops_rd (rd_load1 rfl (getO_N rfl rfl) rfl ta_3 rfl) rfl ?_
    refine vops_rd (rd_fieldAddr rfl tf_28_1 ts_3 (by decide)) rfl ?_
    refine vops_rd (rd_load1 rfl (getO_N rfl rfl) rfl ta_3 rfl) rfl ?_
    refine vops_rd (rd_gtr rfl rfl) rfl ?_
    refine vops_nil ?_
    refine vwp_cond rfl (fun c1 => ?_) (fun c1 => ?_)
    · have hF := bifT c1 hF
      refine vwp_seq ?_
      refine vwp_region ?_
      refine vops_rd (rd_asI rfl) rfl ?_
      refine vops_nil ?_
      refine vwp_ret ?_
      obtain rfl := Option.some.inj hF
      refine fnR ?_
      exact weak_pick rfl [] (by decide) ⟨rn_low rfl (.int _ _), trivial⟩ trivial
    · have hF := bifF c1 hF
      refine vwp_skip ?_
      refine vwp_seq ?_
      refine vwp_seq ?_
      refine vwp_region ?_
      refine vops_rd (rd_fieldAddr rfl tf_28_0 ts_3 (by decide)) rfl ?_
      refine vops_rd (rd_load1 rfl (getO_N rfl rfl) rfl ta_3 rfl) rfl ?_
      refine vops_rd (rd_mvI rfl) rfl ?_
      refine vops_rd (rd_geq rfl rfl) rfl ?_
      refine vops_nil ?_
      refine vwp_cond rfl (fun c2 => ?_) (fun c2 => ?_)
      · have hF := bifT c2 hF
        refine vwp_seq ?_
        refine vwp_region ?_
        refine vops_rd (rd_asI rfl) rfl ?_
        refine vops_nil ?_
        refine vwp_ret ?_
        obtain rfl := Option.some.inj hF
        refine fnR ?_
        exact weak_pick rfl [] (by decide) ⟨rn_low rfl (.int _ _), trivial⟩ trivial
      · have hF := bifF c2 hF
        refine vwp_skip ?_
        refine vwp_seq ?_
        refine vwp_seq ?_
        refine vwp_region ?_
        refine vops_rd (rd_fieldAddr rfl tf_28_1 ts_3 (by decide)) rfl ?_
        refine vops_rd (rd_load1 rfl (getO_N rfl rfl) rfl ta_3 rfl) rfl ?_
        refine vops_rd (rd_mvI rfl) rfl ?_
        refine vops_rd (rd_lss rfl rfl) rfl ?_
        refine vops_nil ?_
        refine vwp_cond rfl (fun c3 => ?_) (fun c3 => ?_)
        · have hF := bifT c3 hF
          refine vwp_seq ?_
          refine vwp_region ?_
          refine vops_rd (rd_asI rfl) rfl ?_
          refine vops_nil ?_
          refine vwp_ret ?_
          obtain rfl := Option.some.inj hF
          refine fnR ?_
          exact weak_pick rfl [] (by decide) ⟨rn_low rfl (.int _ _), trivial⟩ trivial
        · have hF := bifF c3 hF
          refine vwp_skip ?_
          refine vwp_seq ?_
          refine vwp_region ?_
          refine vops_rd (rd_asI rfl) rfl ?_
          refine vops_nil ?_
          refine vwp_ret ?_
          obtain rfl := Option.some.inj hF
          refine fnR ?_
          exact weak_pick rfl [] (by decide) ⟨rn_low rfl (.int _ _), trivial⟩ trivial
  · rintro _ _ _ _ ⟨he, hw⟩
    refine ⟨_, _, _, hw, ?_⟩
    exact bodyQ_pure he [.int .i64 r] ⟨rfl, trivial⟩ (.int _ _) ⟨rfl, rfl⟩

theorem F_ref17_Step_ok {p0 : T_Level} {p1 : T_Watch} {p2 : T_Span} {p3 : Int} {r : T_Watch × Int} (hF : F_ref17_Step p0 p1 p2 p3 = some r) (low : List AObj) :
    VCalls Try.prog 16 [.agg [.int .i64 p0.Cut, .int .i64 p0.Clear, .int .i64 p0.Delay], .agg [.bool p1.Over, .int .i64 p1.Since, .int .i64 p1.Last], .agg [.int .i64 p2.Low, .int .i64 p2.High], .int .i64 p3] low fun x low' => x = .tup [.agg [.bool r.1.Over, .int .i64 r.1.Since, .int .i64 r.1.Last], .int .i64 r.2] ∧ low' = low := by
  refine vcalls_of_body (nt := 92) (rs := [.cell 8 26, .tmp 9]) Try.func16 rfl rfl (Nat.le_of_ble_eq_true rfl) rfl ?_
  refine vwp_monoW (Q' := FnE (fun E' lw lc => Weak E' lw lc [(8, .ptr (low.length + 0) 0 0 0), (9, .int .i64 r.2)] low [⟨26, 3, [.agg [.bool r.1.Over, .int .i64 r.1.Since, .int .i64 r.1.Last]], 0⟩])) ?_ ?_
  · unfold F_ref17_Step at hF
    refine vwp_seq ?_
    refine vwp_region ?_
    refine vops_efE (vef_boxN rfl rfl (v := .agg [.int .i64 p0.Cut, .int .i64 p0.Clear, .int .i64 p0.Delay]) rfl rfl (Nat.succ_pos _) rfl rfl) rfl ?_
    refine vops_efE (vef_boxN rfl rfl (v := .agg [.bool p1.Over, .int .i64 p1.Since, .int .i64 p1.Last]) rfl rfl (Nat.succ_pos _) rfl rfl) rfl ?_
    refine vops_efE (vef_boxN rfl rfl (v := .agg [.int .i64 p2.Low, .int .i64 p2.High]) rfl rfl (Nat.succ_pos _) rfl rfl) rfl ?_
    refine vops_efE (vef_allocN rfl rfl tz_26 rfl rfl (Nat.succ_pos _) rfl) rfl ?_
    refine vops_rd (rd_asI rfl) rfl ?_
    refine vops_nil ?_
    refine vwp_seq ?_
    refine vwp_seq ?_
    refine vwp_region ?_
    obtain ⟨x1, h2, hF⟩ := bnd hF
    refine vops_rd (rd_loadN (ds := [.int .i64 p0.Cut, .int .i64 p0.Clear, .int .i64 p0.Delay]) rfl (getO_N rfl rfl) rfl ta_24 ts_24 rfl rfl rfl) rfl ?_
    refine vops_efE (vef_callP rfl Try.call18 (F_ref17_Check_ok h2 _)) rfl ?_
    refine vops_rd (rd_asI rfl) rfl ?_
    refine vops_nil ?_
    refine vwp_seq ?_
    refine vwp_region ?_
    refine vops_rd (rd_mvI rfl) rfl ?_
    refine vops_rd (rd_neq rfl rfl) rfl ?_
    refine vops_nil ?_
    refine vwp_cond rfl (fun c3 => ?_) (fun c3 => ?_)
    · have hF := bifT c3 hF
      refine vwp_seq ?_
      refine vwp_region ?_
      refine vops_rd (rd_build (vs := []) (ds := [.bool false, .int .i64 0, .int .i64 0]) tz_26 rfl rfl tp_26 trivial (nt_all2 rfl) rfl) rfl ?_
      refine vops_rd (rd_mvI rfl) rfl ?_
      refine vops_efE (vef_store (p := .agg [.bool false, .int .i64 0, .int .i64 0]) (e' := .agg [.bool false, .int .i64 0, .int .i64 0]) rfl (getO_N rfl rfl) rfl rfl ts_26 rfl (nt_ne rfl) rfl (Nat.le_of_ble_eq_true rfl) rfl (setO_N rfl rfl)) rfl ?_
      refine vops_rd (rd_asI rfl) rfl ?_
      refine vops_nil ?_
      refine vwp_ret ?_
      obtain rfl := Option.some.inj hF
      refine fnR ?_
      exact weak_pick rfl [(3, 0)] (by decide) ⟨rn_ptr 0 3 rfl rfl, rn_low rfl (.int _ _), trivial⟩ ⟨⟨_, rfl, rfl, .same _ _ _ _ (ltObj_es ⟨(lt_agg ⟨.bool _, .int _ _, .int _ _, trivial⟩), trivial⟩)⟩, trivial⟩
    · have hF := bifF c3 hF
      refine vwp_skip ?_
      refine vwp_seq ?_
      refine vwp_seq ?_
      obtain ⟨o4, ho4, hF⟩ := bnd hF
      refine vwp_monoW (Q' := (fun o4 => OnlyE .normal (fun E' lw lc => Weak E' lw lc [(3, .int .i64 p3), (4, .ptr (low.length + 0) 0 0 0), (5, .ptr (low.length + 1) 0 0 0), (6, .ptr (low.length + 2) 0 0 0), (8, .ptr (low.length + 3) 0 0 0), (28, .bool o4)] low [⟨24, 3, [.agg [.int .i64 p0.Cut, .int .i64 p0.Clear, .int .i64 p0.Delay]], 0⟩, ⟨26, 3, [.agg [.bool p1.Over, .int .i64 p1.Since, .int .i64 p1.Last]], 0⟩, ⟨28, 2, [.agg [.int .i64 p2.Low, .int .i64 p2.High]], 0⟩, ⟨26, 3, [.agg [.bool false, .int .i64 0, .int .i64 0]], 0⟩])) o4) ?_ ?_
      · replace hF := ho4
        refine vwp_region ?_
        rcases Bool.eq_false_or_eq_true (decide (p3 < 0)) with c5 | c5
        · have hF := bifT c5 hF
          refine vops_rd (rd_mvI rfl) rfl ?_
          refine vops_rd (rd_lss rfl rfl) rfl ?_
          refine vops_rd (rd_mvB rfl) rfl ?_
          refine vops_skip rfl rfl (neT c5) rfl ?_
          refine vops_skip rfl rfl (neT c5) rfl ?_
          refine vops_rd (rd_pickT (congrArg PV.bool c5) rfl) rfl ?_
          refine vops_rd (rd_mvB rfl) rfl ?_
          refine vops_skip rfl rfl (by decide) rfl ?_
          refine vops_skip rfl rfl (by decide) rfl ?_
          refine vops_skip rfl rfl (by decide) rfl ?_
          refine vops_skip rfl rfl (by decide) rfl ?_
          refine vops_rd (rd_pickT rfl rfl) rfl ?_
          refine vops_nil ?_
          obtain rfl := Option.some.inj hF
          refine onlyE ?_
          exact weak_sub ⟨rfl, rfl, rfl, rfl, rfl, rfl, trivial⟩
        · have hF := bifF c5 hF
          rcases Bool.eq_false_or_eq_true (decide (2147483648 < p3)) with c6 | c6
          · have hF := bifT c6 hF
            refine vops_rd (rd_mvI rfl) rfl ?_
            refine vops_rd (rd_lss rfl rfl) rfl ?_
            refine vops_rd (rd_mvB rfl) rfl ?_
            refine vops_take rfl (congrArg PV.bool c5) ?_
            refine vops_rd (rd_mvI rfl) rfl ?_
            refine vops_take rfl (congrArg PV.bool c5) ?_
            refine vops_rd (rd_gtr rfl rfl) rfl ?_
            refine vops_rd (rd_pickF (congrArg PV.bool c5) rfl) rfl ?_
            refine vops_rd (rd_mvB rfl) rfl ?_
            refine vops_skip rfl rfl (neT c6) rfl ?_
            refine vops_skip rfl rfl (neT c6) rfl ?_
            refine vops_skip rfl rfl (neT c6) rfl ?_
            refine vops_skip rfl rfl (neT c6) rfl ?_
            refine vops_rd (rd_pickT (congrArg PV.bool c6) rfl) rfl ?_
            refine vops_nil ?_
            obtain rfl := Option.some.inj hF
            refine onlyE ?_
            exact weak_sub ⟨rfl, rfl, rfl, rfl, rfl, rfl, trivial⟩
          · have hF := bifF c6 hF
            refine vops_rd (rd_mvI rfl) rfl ?_
            refine vops_rd (rd_lss rfl rfl) rfl ?_
            refine vops_rd (rd_mvB rfl) rfl ?_
            refine vops_take rfl (congrArg PV.bool c5) ?_
            refine vops_rd (rd_mvI rfl) rfl ?_
            refine vops_take rfl (congrArg PV.bool c5) ?_
            refine vops_rd (rd_gtr rfl rfl) rfl ?_
            refine vops_rd (rd_pickF (congrArg PV.bool c5) rfl) rfl ?_
            refine vops_rd (rd_mvB rfl) rfl ?_
            refine vops_take rfl (congrArg PV.bool c6) ?_
            refine vops_rd (rd_mvI rfl) rfl ?_
            refine vops_take rfl (congrArg PV.bool c6) ?_
            refine vops_rd (rd_fieldAddr rfl tf_26_2 ts_3 (by decide)) rfl ?_
            refine vops_take rfl (congrArg PV.bool c6) ?_
            refine vops_rd (rd_load1 rfl (getO_N rfl rfl) rfl ta_3 rfl) rfl ?_
            refine vops_take rfl (congrArg PV.bool c6) ?_
            refine vops_rd (rd_lss rfl rfl) rfl ?_
            refine vops_rd (rd_pickF (congrArg PV.bool c6) rfl) rfl ?_
            refine vops_nil ?_
            obtain rfl := Option.some.inj hF
            refine onlyE ?_
            exact weak_sub ⟨rfl, rfl, rfl, rfl, rfl, rfl, trivial⟩
      · rintro _ _ _ _ ⟨rfl, hw⟩
        refine ⟨_, _, _, hw, ?_⟩
        refine vwp_cond rfl (fun c7 => ?_) (fun c7 => ?_)
        · have hF := bifT c7 hF
          refine vwp_seq ?_
          refine vwp_region ?_
          refine vops_rd (rd_build (vs := []) (ds := [.bool false, .int .i64 0, .int .i64 0]) tz_26 rfl rfl tp_26 trivial (nt_all2 rfl) rfl) rfl ?_
          refine vops_efE (vef_store (p := .agg [.bool false, .int .i64 0, .int .i64 0]) (e' := .agg [.bool false, .int .i64 0, .int .i64 0]) rfl (getO_N rfl rfl) rfl rfl ts_26 rfl (nt_ne rfl) rfl (Nat.le_of_ble_eq_true rfl) rfl (setO_N rfl rfl)) rfl ?_
          refine vops_rd (rd_asI rfl) rfl ?_
          refine vops_nil ?_
          refine vwp_ret ?_
          obtain rfl := Option.some.inj hF
          refine fnR ?_
          exact weak_pick rfl [(3, 0)] (by decide) ⟨rn_ptr 0 3 rfl rfl, rn_low rfl (.int _ _), trivial⟩ ⟨⟨_, rfl, rfl, .same _ _ _ _ (ltObj_es ⟨(lt_agg ⟨.bool _, .int _ _, .int _ _, trivial⟩), trivial⟩)⟩, trivial⟩
        · have hF := bifF c7 hF
          refine vwp_skip ?_
          refine vwp_seq ?_
          refine vwp_seq ?_
          obtain ⟨o8, ho8, hF⟩ := bnd hF
          refine vwp_monoW (Q' := (fun o8 => OnlyE .normal (fun E' lw lc => Weak E' lw lc [(3, .int .i64 p3), (4, .ptr (low.length + 0) 0 0 0), (5, .ptr (low.length + 1) 0 0 0), (6, .ptr (low.length + 2) 0 0 0), (8, .ptr (low.length + 3) 0 0 0), (54, .bool o8)] low [⟨24, 3, [.agg [.int .i64 p0.Cut, .int .i64 p0.Clear, .int .i64 p0.Delay]], 0⟩, ⟨26, 3, [.agg [.bool p1.Over, .int .i64 p1.Since, .int .i64 p1.Last]], 0⟩, ⟨28, 2, [.agg [.int .i64 p2.Low, .int .i64 p2.High]], 0⟩, ⟨26, 3, [.agg [.bool false, .int .i64 0, .int .i64 0]], 0⟩])) o8) ?_ ?_
          · replace hF := ho8
            refine vwp_region ?_
            rcases Bool.eq_false_or_eq_true (decide (p1.Last < 0)) with c9 | c9
            · have hF := bifT c9 hF
              refine vops_rd (rd_fieldAddr rfl tf_26_2 ts_3 (by decide)) rfl ?_
              refine vops_rd (rd_load1 rfl (getO_N rfl rfl) rfl ta_3 rfl) rfl ?_
              refine vops_rd (rd_lss rfl rfl) rfl ?_
              refine vops_rd (rd_mvB rfl) rfl ?_
              refine vops_skip rfl rfl (neT c9) rfl ?_
              refine vops_skip rfl rfl (neT c9) rfl ?_
              refine vops_skip rfl rfl (neT c9) rfl ?_
              refine vops_rd (rd_pickT (congrArg PV.bool c9) rfl) rfl ?_
              refine vops_rd (rd_mvB rfl) rfl ?_
              refine vops_skip rfl rfl (by decide) rfl ?_
              refine vops_skip rfl rfl (by decide) rfl ?_
              refine vops_skip rfl rfl (by decide) rfl ?_
              refine vops_skip rfl rfl (by decide) rfl ?_
              refine vops_skip rfl rfl (by decide) rfl ?_
              refine vops_rd (rd_pickT rfl rfl) rfl ?_
              refine vops_rd (rd_mvB rfl) rfl ?_
              refine vops_skip rfl rfl (by decide) rfl ?_
              refine vops_skip rfl rfl (by decide) rfl ?_
              refine vops_skip rfl rfl (by decide) rfl ?_
              refine vops_skip rfl rfl (by decide) rfl ?_
              refine vops_skipX rfl rfl rfl ?_
              refine vops_skipX rfl rfl rfl ?_
              refine vops_skipX rfl rfl rfl ?_
              refine vops_skip rfl rfl (by decide) rfl ?_
              refine vops_rd (rd_pickT rfl rfl) rfl ?_
              refine vops_nil ?_
              obtain rfl := Option.some.inj hF
              refine onlyE ?_
              exact weak_sub ⟨rfl, rfl, rfl, rfl, rfl, rfl, trivial⟩
            · have hF := bifF c9 hF
              rcases Bool.eq_false_or_eq_true (decide (p1.Since < (-1))) with c10 | c10
              · have hF := bifT c10 hF
                refine vops_rd (rd_fieldAddr rfl tf_26_2 ts_3 (by decide)) rfl ?_
                refine vops_rd (rd_load1 rfl (getO_N rfl rfl) rfl ta_3 rfl) rfl ?_
                refine vops_rd (rd_lss rfl rfl) rfl ?_
                refine vops_rd (rd_mvB rfl) rfl ?_
                refine vops_take rfl (congrArg PV.bool c9) ?_
                refine vops_rd (rd_fieldAddr rfl tf_26_1 ts_3 (by decide)) rfl ?_
                refine vops_take rfl (congrArg PV.bool c9) ?_
                refine vops_rd (rd_load1 rfl (getO_N rfl rfl) rfl ta_3 rfl) rfl ?_
                refine vops_take rfl (congrArg PV.bool c9) ?_
                refine vops_rd (rd_lss rfl rfl) rfl ?_
                refine vops_rd (rd_pickF (congrArg PV.bool c9) rfl) rfl ?_
                refine vops_rd (rd_mvB rfl) rfl ?_
                refine vops_skip rfl rfl (neT c10) rfl ?_
                refine vops_skip rfl rfl (neT c10) rfl ?_
                refine vops_skip rfl rfl (neT c10) rfl ?_
                refine vops_skip rfl rfl (neT c10) rfl ?_
                refine vops_skip rfl rfl (neT c10) rfl ?_
                refine vops_rd (rd_pickT (congrArg PV.bool c10) rfl) rfl ?_
                refine vops_rd (rd_mvB rfl) rfl ?_
                refine vops_skip rfl rfl (by decide) rfl ?_
                refine vops_skip rfl rfl (by decide) rfl ?_
                refine vops_skip rfl rfl (by decide) rfl ?_
                refine vops_skip rfl rfl (by decide) rfl ?_
                refine vops_skipX rfl rfl rfl ?_
                refine vops_skipX rfl rfl rfl ?_
                refine vops_skipX rfl rfl rfl ?_
                refine vops_skip rfl rfl (by decide) rfl ?_
                refine vops_rd (rd_pickT rfl rfl) rfl ?_
                refine vops_nil ?_
                obtain rfl := Option.some.inj hF
                refine onlyE ?_
                exact weak_sub ⟨rfl, rfl, rfl, rfl, rfl, rfl, trivial⟩
              · have hF := bifF c10 hF
                rcases Bool.eq_false_or_eq_true (decide (p1.Last < p1.Since)) with c11 | c11
                · have hF := bifT c11 hF
                  refine vops_rd (rd_fieldAddr rfl tf_26_2 ts_3 (by decide)) rfl ?_
                  refine vops_rd (rd_load1 rfl (getO_N rfl rfl) rfl ta_3 rfl) rfl ?_
                  refine vops_rd (rd_lss rfl rfl) rfl ?_
                  refine vops_rd (rd_mvB rfl) rfl ?_
                  refine vops_take rfl (congrArg PV.bool c9) ?_
                  refine vops_rd (rd_fieldAddr rfl tf_26_1 ts_3 (by decide)) rfl ?_
                  refine vops_take rfl (congrArg PV.bool c9) ?_
                  refine vops_rd (rd_load1 rfl (getO_N rfl rfl) rfl ta_3 rfl) rfl ?_
                  refine vops_take rfl (congrArg PV.bool c9) ?_
                  refine vops_rd (rd_lss rfl rfl) rfl ?_
                  refine vops_rd (rd_pickF (congrArg PV.bool c9) rfl) rfl ?_
                  refine vops_rd (rd_mvB rfl) rfl ?_
                  refine vops_take rfl (congrArg PV.bool c10) ?_
                  refine vops_rd (rd_fieldAddr rfl tf_26_1 ts_3 (by decide)) rfl ?_
                  refine vops_take rfl (congrArg PV.bool c10) ?_
                  refine vops_rd (rd_load1 rfl (getO_N rfl rfl) rfl ta_3 rfl) rfl ?_
                  refine vops_take rfl (congrArg PV.bool c10) ?_
                  refine vops_rd (rd_fieldAddr rfl tf_26_2 ts_3 (by decide)) rfl ?_
                  refine vops_take rfl (congrArg PV.bool c10) ?_
                  refine vops_rd (rd_load1 rfl (getO_N rfl rfl) rfl ta_3 rfl) rfl ?_
                  refine vops_take rfl (congrArg PV.bool c10) ?_
                  refine vops_rd (rd_gtr rfl rfl) rfl ?_
                  refine vops_rd (rd_pickF (congrArg PV.bool c10) rfl) rfl ?_
                  refine vops_rd (rd_mvB rfl) rfl ?_
                  refine vops_skip rfl rfl (neT c11) rfl ?_
                  refine vops_skip rfl rfl (neT c11) rfl ?_
                  refine vops_skip rfl rfl (neT c11) rfl ?_
                  refine vops_skip rfl rfl (neT c11) rfl ?_
                  refine vops_skipX rfl rfl rfl ?_
                  refine vops_skipX rfl rfl rfl ?_
                  refine vops_skipX rfl rfl rfl ?_
                  refine vops_skip rfl rfl (neT c11) rfl ?_
                  refine vops_rd (rd_pickT (congrArg PV.bool c11) rfl) rfl ?_
                  refine vops_nil ?_
                  obtain rfl := Option.some.inj hF
                  refine onlyE ?_
                  exact weak_sub ⟨rfl, rfl, rfl, rfl, rfl, rfl, trivial⟩
                · have hF := bifF c11 hF
                  rcases Bool.eq_false_or_eq_true (decide (p1.Since ≠ (-1))) with c12 | c12
                  · have hF := bifT c12 hF
                    refine vops_rd (rd_fieldAddr rfl tf_26_2 ts_3 (by decide)) rfl ?_
                    refine vops_rd (rd_load1 rfl (getO_N rfl rfl) rfl ta_3 rfl) rfl ?_
                    refine vops_rd (rd_lss rfl rfl) rfl ?_
                    refine vops_rd (rd_mvB rfl) rfl ?_
                    refine vops_take rfl (congrArg PV.bool c9) ?_
                    refine vops_rd (rd_fieldAddr rfl tf_26_1 ts_3 (by decide)) rfl ?_
                    refine vops_take rfl (congrArg PV.bool c9) ?_
                    refine vops_rd (rd_load1 rfl (getO_N rfl rfl) rfl ta_3 rfl) rfl ?_
                    refine vops_take rfl (congrArg PV.bool c9) ?_
                    refine vops_rd (rd_lss rfl rfl) rfl ?_
                    refine vops_rd (rd_pickF (congrArg PV.bool c9) rfl) rfl ?_
                    refine vops_rd (rd_mvB rfl) rfl ?_
                    refine vops_take rfl (congrArg PV.bool c10) ?_
                    refine vops_rd (rd_fieldAddr rfl tf_26_1 ts_3 (by decide)) rfl ?_
                    refine vops_take rfl (congrArg PV.bool c10) ?_
                    refine vops_rd (rd_load1 rfl (getO_N rfl rfl) rfl ta_3 rfl) rfl ?_
                    refine vops_take rfl (congrArg PV.bool c10) ?_
                    refine vops_rd (rd_fieldAddr rfl tf_26_2 ts_3 (by decide)) rfl ?_
                    refine vops_take rfl (congrArg PV.bool c10) ?_
                    refine vops_rd (rd_load1 rfl (getO_N rfl rfl) rfl ta_3 rfl) rfl ?_
                    refine vops_take rfl (congrArg PV.bool c10) ?_
                    refine vops_rd (rd_gtr rfl rfl) rfl ?_
                    refine vops_rd (rd_pickF (congrArg PV.bool c10) rfl) rfl ?_
                    refine vops_rd (rd_mvB rfl) rfl ?_
                    refine vops_take rfl (congrArg PV.bool c11) ?_
                    refine vops_rd (rd_fieldAddr rfl tf_26_1 ts_3 (by decide)) rfl ?_
                    refine vops_take rfl (congrArg PV.bool c11) ?_
                    refine vops_rd (rd_load1 rfl (getO_N rfl rfl) rfl ta_3 rfl) rfl ?_
                    refine vops_take rfl (congrArg PV.bool c11) ?_
                    refine vops_rd (rd_neq rfl rfl) rfl ?_
                    refine vops_take rfl (congrArg PV.bool c11) ?_
                    refine vops_rd (rd_mvB rfl) rfl ?_
                    refine vops_take rfl (congrArg PV.bool c12) ?_
                    refine vops_rd (rd_fieldAddr rfl tf_26_0 ts_4 (by decide)) rfl ?_
                    refine vops_take rfl (congrArg PV.bool c12) ?_
                    refine vops_rd (rd_load1 rfl (getO_N rfl rfl) rfl ta_4 rfl) rfl ?_
                    refine vops_take rfl (congrArg PV.bool c12) ?_
                    refine vops_rd (rd_not rfl) rfl ?_
                    refine vops_take rfl (congrArg PV.bool c11) ?_
                    refine vops_rd (rd_pickT (congrArg PV.bool c12) rfl) rfl ?_
                    refine vops_rd (rd_pickF (congrArg PV.bool c11) rfl) rfl ?_
                    refine vops_nil ?_
                    obtain rfl := Option.some.inj hF
                    refine onlyE ?_
                    exact weak_sub ⟨rfl, rfl, rfl, rfl, rfl, rfl, trivial⟩
                  · have hF := bifF c12 hF
                    refine vops_rd (rd_fieldAddr rfl tf_26_2 ts_3 (by decide)) rfl ?_
                    refine vops_rd (rd_load1 rfl (getO_N rfl rfl) rfl ta_3 rfl) rfl ?_
                    refine vops_rd (rd_lss rfl rfl) rfl ?_
                    refine vops_rd (rd_mvB rfl) rfl ?_
                    refine vops_take rfl (congrArg PV.bool c9) ?_
                    refine vops_rd (rd_fieldAddr rfl tf_26_1 ts_3 (by decide)) rfl ?_
                    refine vops_take rfl (congrArg PV.bool c9) ?_
                    refine vops_rd (rd_load1 rfl (getO_N rfl rfl) rfl ta_3 rfl) rfl ?_
                    refine vops_take rfl (congrArg PV.bool c9) ?_
                    refine vops_rd (rd_lss rfl rfl) rfl ?_
                    refine vops_rd (rd_pickF (congrArg PV.bool c9) rfl) rfl ?_
                    refine vops_rd (rd_mvB rfl) rfl ?_
                    refine vops_take rfl (congrArg PV.bool c10) ?_
                    refine vops_rd (rd_fieldAddr rfl tf_26_1 ts_3 (by decide)) rfl ?_
                    refine vops_take rfl (congrArg PV.bool c10) ?_
                    refine vops_rd (rd_load1 rfl (getO_N rfl rfl) rfl ta_3 rfl) rfl ?_
                    refine vops_take rfl (congrArg PV.bool c10) ?_
                    refine vops_rd (rd_fieldAddr rfl tf_26_2 ts_3 (by decide)) rfl ?_
                    refine vops_take rfl (congrArg PV.bool c10) ?_
                    refine vops_rd (rd_load1 rfl (getO_N rfl rfl) rfl ta_3 rfl) rfl ?_
                    refine vops_take rfl (congrArg PV.bool c10) ?_
                    refine vops_rd (rd_gtr rfl rfl) rfl ?_
                    refine vops_rd (rd_pickF (congrArg PV.bool c10) rfl) rfl ?_
                    refine vops_rd (rd_mvB rfl) rfl ?_
                    refine vops_take rfl (congrArg PV.bool c11) ?_
                    refine vops_rd (rd_fieldAddr rfl tf_26_1 ts_3 (by decide)) rfl ?_
                    refine vops_take rfl (congrArg PV.bool c11) ?_
                    refine vops_rd (rd_load1 rfl (getO_N rfl rfl) rfl ta_3 rfl) rfl ?_
                    refine vops_take rfl (congrArg PV.bool c11) ?_
                    refine vops_rd (rd_neq rfl rfl) rfl ?_
                    refine vops_take rfl (congrArg PV.bool c11) ?_
                    refine vops_rd (rd_mvB rfl) rfl ?_
                    refine vops_skip rfl rfl (neF c12) rfl ?_
                    refine vops_skip rfl rfl (neF c12) rfl ?_
                    refine vops_skip rfl rfl (neF c12) rfl ?_
                    refine vops_take rfl (congrArg PV.bool c11) ?_
                    refine vops_rd (rd_pickF (congrArg PV.bool c12) rfl) rfl ?_
                    refine vops_rd (rd_pickF (congrArg PV.bool c11) rfl) rfl ?_
                    refine vops_nil ?_
                    obtain rfl := Option.some.inj hF
                    refine onlyE ?_
                    exact weak_sub ⟨rfl, rfl, rfl, rfl, rfl, rfl, trivial⟩
          · rintro _ _ _ _ ⟨rfl, hw⟩
            refine ⟨_, _, _, hw, ?_⟩
            refine vwp_cond rfl (fun c13 => ?_) (fun c13 => ?_)
            · have hF := bifT c13 hF
              refine vwp_seq ?_
              refine vwp_region ?_
              refine vops_rd (rd_build (vs := []) (ds := [.bool false, .int .i64 0, .int .i64 0]) tz_26 rfl rfl tp_26 trivial (nt_all2 rfl) rfl) rfl ?_
              refine vops_efE (vef_store (p := .agg [.bool false, .int .i64 0, .int .i64 0]) (e' := .agg [.bool false, .int .i64 0, .int .i64 0]) rfl (getO_N rfl rfl) rfl rfl ts_26 rfl (nt_ne rfl) rfl (Nat.le_of_ble_eq_true rfl) rfl (setO_N rfl rfl)) rfl ?_
              refine vops_rd (rd_asI rfl) rfl ?_
              refine vops_nil ?_
              refine vwp_ret ?_
              obtain rfl := Option.some.inj hF
              refine fnR ?_
              exact weak_pick rfl [(3, 0)] (by decide) ⟨rn_ptr 0 3 rfl rfl, rn_low rfl (.int _ _), trivial⟩ ⟨⟨_, rfl, rfl, .same _ _ _ _ (ltObj_es ⟨(lt_agg ⟨.bool _, .int _ _, .int _ _, trivial⟩), trivial⟩)⟩, trivial⟩
            · have hF := bifF c13 hF
              refine vwp_skip ?_
              refine vwp_seq ?_
              refine vwp_region ?_
              refine vops_rd (rd_mvI rfl) rfl ?_
              refine vops_rd (rd_fieldAddr rfl tf_26_2 ts_3 (by decide)) rfl ?_
              refine vops_efE (vef_store (p := .int .i64 p3) (e' := .agg [.bool p1.Over, .int .i64 p1.Since, .int .i64 p3]) rfl (getO_N rfl rfl) rfl rfl ts_3 rfl (nt_ne rfl) rfl (Nat.le_of_ble_eq_true rfl) rfl (setO_N rfl rfl)) rfl ?_
              refine vops_nil ?_
              refine vwp_seq ?_
              refine vwp_seq ?_
              refine vwp_region ?_
              obtain ⟨x14, h15, hF⟩ := bnd hF
              refine vops_rd (rd_loadN (ds := [.int .i64 p2.Low, .int .i64 p2.High]) rfl (getO_N rfl rfl) rfl ta_28 ts_28 rfl rfl rfl) rfl ?_
              refine vops_rd (rd_fieldAddr rfl tf_24_0 ts_3 (by decide)) rfl ?_
              refine vops_rd (rd_load1 rfl (getO_N rfl rfl) rfl ta_3 rfl) rfl ?_
              refine vops_efE (vef_callP rfl Try.call26 (F_ref06_Above_ok h15 _)) rfl ?_
              refine vops_rd (rd_neq rfl rfl) rfl ?_
              refine vops_nil ?_
              refine vwp_cond rfl (fun c16 => ?_) (fun c16 => ?_)
              · have hF := bifT c16 hF
                refine vwp_seq ?_
                refine vwp_region ?_
                refine vops_rd (rd_fieldAddr rfl tf_26_0 ts_4 (by decide)) rfl ?_
                refine vops_efE (vef_store (p := .bool true) (e' := .agg [.bool true, .int .i64 p1.Since, .int .i64 p3]) rfl (getO_N rfl rfl) rfl rfl ts_4 rfl (nt_ne rfl) rfl (Nat.le_of_ble_eq_true rfl) rfl (setO_N rfl rfl)) rfl ?_
                refine vops_rd (rd_fieldAddr rfl tf_26_1 ts_3 (by decide)) rfl ?_
                refine vops_efE (vef_store (p := .int .i64 (-1)) (e' := .agg [.bool true, .int .i64 (-1), .int .i64 p3]) rfl (getO_N rfl rfl) rfl rfl ts_3 rfl (nt_ne rfl) rfl (Nat.le_of_ble_eq_true rfl) rfl (setO_N rfl rfl)) rfl ?_
                refine vops_nil ?_
                refine vwp_seq ?_
                refine vwp_region ?_
                refine vops_rd (rd_loadN (ds := [.bool true, .int .i64 (-1), .int .i64 p3]) rfl (getO_N rfl rfl) rfl ta_26 ts_26 rfl rfl rfl) rfl ?_
                refine vops_efE (vef_store (p := .agg [.bool true, .int .i64 (-1), .int .i64 p3]) (e' := .agg [.bool true, .int .i64 (-1), .int .i64 p3]) rfl (getO_N rfl rfl) rfl rfl ts_26 rfl (nt_ne rfl) rfl (Nat.le_of_ble_eq_true rfl) rfl (setO_N rfl rfl)) rfl ?_
                refine vops_rd (rd_asI rfl) rfl ?_
                refine vops_nil ?_
                refine vwp_ret ?_
                obtain rfl := Option.some.inj hF
                refine fnR ?_
                exact weak_pick rfl [(3, 0)] (by decide) ⟨rn_ptr 0 3 rfl rfl, rn_low rfl (.int _ _), trivial⟩ ⟨⟨_, rfl, rfl, .same _ _ _ _ (ltObj_es ⟨(lt_agg ⟨.bool _, .int _ _, .int _ _, trivial⟩), trivial⟩)⟩, trivial⟩
              · have hF := bifF c16 hF
                refine vwp_skip ?_
                refine vwp_seq ?_
                refine vwp_seq ?_
                refine vwp_region ?_
                refine vops_rd (rd_fieldAddr rfl tf_26_0 ts_4 (by decide)) rfl ?_
                refine vops_rd (rd_load1 rfl (getO_N rfl rfl) rfl ta_4 rfl) rfl ?_
                refine vops_rd (rd_not rfl) rfl ?_
                refine vops_nil ?_
                refine vwp_cond rfl (fun c17 => ?_) (fun c17 => ?_)
                · have hF := bifT c17 hF
                  refine vwp_seq ?_
                  refine vwp_region ?_
                  refine vops_rd (rd_loadN (ds := [.bool p1.Over, .int .i64 p1.Since, .int .i64 p3]) rfl (getO_N rfl rfl) rfl ta_26 ts_26 rfl rfl rfl) rfl ?_
                  refine vops_efE (vef_store (p := .agg [.bool p1.Over, .int .i64 p1.Since, .int .i64 p3]) (e' := .agg [.bool p1.Over, .int .i64 p1.Since, .int .i64 p3]) rfl (getO_N rfl rfl) rfl rfl ts_26 rfl (nt_ne rfl) rfl (Nat.le_of_ble_eq_true rfl) rfl (setO_N rfl rfl)) rfl ?_
                  refine vops_rd (rd_asI rfl) rfl ?_
                  refine vops_nil ?_
                  refine vwp_ret ?_
                  obtain rfl := Option.some.inj hF
                  refine fnR ?_
                  exact weak_pick rfl [(3, 0)] (by decide) ⟨rn_ptr 0 3 rfl rfl, rn_low rfl (.int _ _), trivial⟩ ⟨⟨_, rfl, rfl, .same _ _ _ _ (ltObj_es ⟨(lt_agg ⟨.bool _, .int _ _, .int _ _, trivial⟩), trivial⟩)⟩, trivial⟩
                · have hF := bifF c17 hF
                  refine vwp_skip ?_
                  refine vwp_seq ?_
                  refine vwp_seq ?_
                  refine vwp_region ?_
                  refine vops_rd (rd_fieldAddr rfl tf_28_1 ts_3 (by decide)) rfl ?_
                  refine vops_rd (rd_load1 rfl (getO_N rfl rfl) rfl ta_3 rfl) rfl ?_
                  refine vops_rd (rd_fieldAddr rfl tf_24_1 ts_3 (by decide)) rfl ?_
                  refine vops_rd (rd_load1 rfl (getO_N rfl rfl) rfl ta_3 rfl) rfl ?_
                  refine vops_rd (rd_gtr rfl rfl) rfl ?_
                  refine vops_nil ?_
                  refine vwp_cond rfl (fun c18 => ?_) (fun c18 => ?_)
                  · have hF := bifT c18 hF
                    refine vwp_seq ?_
                    refine vwp_region ?_
                    refine vops_rd (rd_fieldAddr rfl tf_26_1 ts_3 (by decide)) rfl ?_
                    refine vops_efE (vef_store (p := .int .i64 (-1)) (e' := .agg [.bool p1.Over, .int .i64 (-1), .int .i64 p3]) rfl (getO_N rfl rfl) rfl rfl ts_3 rfl (nt_ne rfl) rfl (Nat.le_of_ble_eq_true rfl) rfl (setO_N rfl rfl)) rfl ?_
                    refine vops_nil ?_
                    refine vwp_seq ?_
                    refine vwp_region ?_
                    refine vops_rd (rd_loadN (ds := [.bool p1.Over, .int .i64 (-1), .int .i64 p3]) rfl (getO_N rfl rfl) rfl ta_26 ts_26 rfl rfl rfl) rfl ?_
                    refine vops_efE (vef_store (p := .agg [.bool p1.Over, .int .i64 (-1), .int .i64 p3]) (e' := .agg [.bool p1.Over, .int .i64 (-1), .int .i64 p3]) rfl (getO_N rfl rfl) rfl rfl ts_26 rfl (nt_ne rfl) rfl (Nat.le_of_ble_eq_true rfl) rfl (setO_N rfl rfl)) rfl ?_
                    refine vops_rd (rd_asI rfl) rfl ?_
                    refine vops_nil ?_
                    refine vwp_ret ?_
                    obtain rfl := Option.some.inj hF
                    refine fnR ?_
                    exact weak_pick rfl [(3, 0)] (by decide) ⟨rn_ptr 0 3 rfl rfl, rn_low rfl (.int _ _), trivial⟩ ⟨⟨_, rfl, rfl, .same _ _ _ _ (ltObj_es ⟨(lt_agg ⟨.bool _, .int _ _, .int _ _, trivial⟩), trivial⟩)⟩, trivial⟩
                  · have hF := bifF c18 hF
                    refine vwp_skip ?_
                    refine vwp_seq ?_
                    refine vwp_seq ?_
                    refine vwp_region ?_
                    refine vops_rd (rd_fieldAddr rfl tf_26_1 ts_3 (by decide)) rfl ?_
                    refine vops_rd (rd_load1 rfl (getO_N rfl rfl) rfl ta_3 rfl) rfl ?_
                    refine vops_rd (rd_eql rfl rfl) rfl ?_
                    refine vops_nil ?_
                    obtain ⟨o19, ho19, hF⟩ := bnd hF
                    refine vwp_monoW (Q' := (fun o19 => OnlyE .normal (fun E' lw lc => Weak E' lw lc [(3, .int .i64 p3), (4, .ptr (low.length + 0) 0 0 0), (5, .ptr (low.length + 1) 0 0 0), (8, .ptr (low.length + 2) 0 0 0)] low [⟨24, 3, [.agg [.int .i64 p0.Cut, .int .i64 p0.Clear, .int .i64 p0.Delay]], 0⟩, ⟨26, 3, [.agg [.bool p1.Over, .int .i64 o19, .int .i64 p3]], 0⟩, ⟨26, 3, [.agg [.bool false, .int .i64 0, .int .i64 0]], 0⟩])) o19) ?_ ?_
                    · replace hF := ho19
                      refine vwp_cond rfl (fun c20 => ?_) (fun c20 => ?_)
                      · have hF := bifT c20 hF
                        refine vwp_region ?_
                        refine vops_rd (rd_mvI rfl) rfl ?_
                        refine vops_rd (rd_fieldAddr rfl tf_26_1 ts_3 (by decide)) rfl ?_
                        refine vops_efE (vef_store (p := .int .i64 p3) (e' := .agg [.bool p1.Over, .int .i64 p3, .int .i64 p3]) rfl (getO_N rfl rfl) rfl rfl ts_3 rfl (nt_ne rfl) rfl (Nat.le_of_ble_eq_true rfl) rfl (setO_N rfl rfl)) rfl ?_
                        refine vops_nil ?_
                        obtain rfl := Option.some.inj hF
                        refine onlyE ?_
                        exact weak_pick rfl [(0, 0), (1, 0), (3, 0)] (by decide) ⟨rn_low rfl (.int _ _), rn_ptr 0 0 rfl rfl, rn_ptr 1 1 rfl rfl, rn_ptr 2 3 rfl rfl, trivial⟩ ⟨⟨_, rfl, rfl, .same _ _ _ _ (ltObj_es ⟨(lt_agg ⟨.int _ _, .int _ _, .int _ _, trivial⟩), trivial⟩)⟩, ⟨_, rfl, rfl, .same _ _ _ _ (ltObj_es ⟨(lt_agg ⟨.bool _, .int _ _, .int _ _, trivial⟩), trivial⟩)⟩, ⟨_, rfl, rfl, .same _ _ _ _ (ltObj_es ⟨(lt_agg ⟨.bool _, .int _ _, .int _ _, trivial⟩), trivial⟩)⟩, trivial⟩
                      · have hF := bifF c20 hF
                        refine vwp_skip ?_
                        obtain rfl := Option.some.inj hF
                        refine onlyE ?_
                        exact weak_pick rfl [(0, 0), (1, 0), (3, 0)] (by decide) ⟨rn_low rfl (.int _ _), rn_ptr 0 0 rfl rfl, rn_ptr 1 1 rfl rfl, rn_ptr 2 3 rfl rfl, trivial⟩ ⟨⟨_, rfl, rfl, .same _ _ _ _ (ltObj_es ⟨(lt_agg ⟨.int _ _, .int _ _, .int _ _, trivial⟩), trivial⟩)⟩, ⟨_, rfl, rfl, .same _ _ _ _ (ltObj_es ⟨(lt_agg ⟨.bool _, .int _ _, .int _ _, trivial⟩), trivial⟩)⟩, ⟨_, rfl, rfl, .same _ _ _ _ (ltObj_es ⟨(lt_agg ⟨.bool _, .int _ _, .int _ _, trivial⟩), trivial⟩)⟩, trivial⟩
                    · rintro _ _ _ _ ⟨rfl, hw⟩
                      refine ⟨_, _, _, hw, ?_⟩
                      refine vwp_seq ?_
                      refine vwp_seq ?_
                      refine vwp_region ?_
                      refine vops_rd (rd_mvI rfl) rfl ?_
                      refine vops_rd (rd_fieldAddr rfl tf_26_1 ts_3 (by decide)) rfl ?_
                      refine vops_rd (rd_load1 rfl (getO_N rfl rfl) rfl ta_3 rfl) rfl ?_
                      refine vops_rd (rd_sub rfl rfl rfl) rfl ?_
                      refine vops_rd (rd_fieldAddr rfl tf_24_2 ts_3 (by decide)) rfl ?_
                      refine vops_rd (rd_load1 rfl (getO_N rfl rfl) rfl ta_3 rfl) rfl ?_
                      refine vops_rd (rd_geq rfl rfl) rfl ?_
                      refine vops_nil ?_
                      obtain ⟨o21, ho21, hF⟩ := bnd hF
                      refine vwp_monoW (Q' := (fun o21 => OnlyE .normal (fun E' lw lc => Weak E' lw lc [(5, .ptr (low.length + 0) 0 0 0), (8, .ptr (low.length + 1) 0 0 0)] low [⟨26, 3, [.agg [.bool o21.Over, .int .i64 o21.Since, .int .i64 o21.Last]], 0⟩, ⟨26, 3, [.agg [.bool false, .int .i64 0, .int .i64 0]], 0⟩])) o21) ?_ ?_
                      · replace hF := ho21
                        refine vwp_cond rfl (fun c22 => ?_) (fun c22 => ?_)
                        · have hF := bifT c22 hF
                          refine vwp_region ?_
                          refine vops_rd (rd_fieldAddr rfl tf_26_0 ts_4 (by decide)) rfl ?_
                          refine vops_efE (vef_store (p := .bool false) (e' := .agg [.bool false, .int .i64 o19, .int .i64 p3]) rfl (getO_N rfl rfl) rfl rfl ts_4 rfl (nt_ne rfl) rfl (Nat.le_of_ble_eq_true rfl) rfl (setO_N rfl rfl)) rfl ?_
                          refine vops_rd (rd_fieldAddr rfl tf_26_1 ts_3 (by decide)) rfl ?_
                          refine vops_efE (vef_store (p := .int .i64 (-1)) (e' := .agg [.bool false, .int .i64 (-1), .int .i64 p3]) rfl (getO_N rfl rfl) rfl rfl ts_3 rfl (nt_ne rfl) rfl (Nat.le_of_ble_eq_true rfl) rfl (setO_N rfl rfl)) rfl ?_
                          refine vops_nil ?_
                          obtain rfl := Option.some.inj hF
                          refine onlyE ?_
                          exact weak_pick rfl [(1, 0), (2, 0)] (by decide) ⟨rn_ptr 0 1 rfl rfl, rn_ptr 1 2 rfl rfl, trivial⟩ ⟨⟨_, rfl, rfl, .same _ _ _ _ (ltObj_es ⟨(lt_agg ⟨.bool _, .int _ _, .int _ _, trivial⟩), trivial⟩)⟩, ⟨_, rfl, rfl, .same _ _ _ _ (ltObj_es ⟨(lt_agg ⟨.bool _, .int _ _, .int _ _, trivial⟩), trivial⟩)⟩, trivial⟩
                        · have hF := bifF c22 hF
                          refine vwp_skip ?_
                          obtain rfl := Option.some.inj hF
                          refine onlyE ?_
                          exact weak_pick rfl [(1, 0), (2, 0)] (by decide) ⟨rn_ptr 0 1 rfl rfl, rn_ptr 1 2 rfl rfl, trivial⟩ ⟨⟨_, rfl, rfl, .same _ _ _ _ (ltObj_es ⟨(lt_agg ⟨.bool _, .int _ _, .int _ _, trivial⟩), trivial⟩)⟩, ⟨_, rfl, rfl, .same _ _ _ _ (ltObj_es ⟨(lt_agg ⟨.bool _, .int _ _, .int _ _, trivial⟩), trivial⟩)⟩, trivial⟩
                      · rintro _ _ _ _ ⟨rfl, hw⟩
                        refine ⟨_, _, _, hw, ?_⟩
                        refine vwp_seq ?_
                        refine vwp_region ?_
                        refine vops_rd (rd_loadN (ds := [.bool o21.Over, .int .i64 o21.Since, .int .i64 o21.Last]) rfl (getO_N rfl rfl) rfl ta_26 ts_26 rfl rfl rfl) rfl ?_
                        refine vops_efE (vef_store (p := .agg [.bool o21.Over, .int .i64 o21.Since, .int .i64 o21.Last]) (e' := .agg [.bool o21.Over, .int .i64 o21.Since, .int .i64 o21.Last]) rfl (getO_N rfl rfl) rfl rfl ts_26 rfl (nt_ne rfl) rfl (Nat.le_of_ble_eq_true rfl) rfl (setO_N rfl rfl)) rfl ?_
                        refine vops_rd (rd_asI rfl) rfl ?_
                        refine vops_nil ?_
                        refine vwp_ret ?_
                        obtain rfl := Option.some.inj hF
                        refine fnR ?_
                        exact weak_pick rfl [(1, 0)] (by decide) ⟨rn_ptr 0 1 rfl rfl, rn_low rfl (.int _ _), trivial⟩ ⟨⟨_, rfl, rfl, .same _ _ _ _ (ltObj_es ⟨(lt_agg ⟨.bool _, .int _ _, .int _ _, trivial⟩), trivial⟩)⟩, trivial⟩
  · rintro _ _ _ _ ⟨he, hw⟩
    refine ⟨_, _, _, hw, ?_⟩
    exact bodyQ_pure he [.agg [.bool r.1.Over, .int .i64 r.1.Since, .int .i64 r.1.Last], .int .i64 r.2] ⟨rd_loadN rfl (getO_N rfl rfl) rfl ta_26 ts_26 rfl rfl rfl, rfl, trivial⟩ ((lt_tup ⟨(lt_agg ⟨.bool _, .int _ _, .int _ _, trivial⟩), .int _ _, trivial⟩)) ⟨rfl, rfl⟩

theorem F_ref17_Begin_ok  {r : T_Watch} (hF : F_ref17_Begin = some r) (low : List AObj) :
    VCalls Try.prog 19 [] low fun x low' => x = .agg [.bool r.Over, .int .i64 r.Since, .int .i64 r.Last] ∧ low' = low := by
  refine vcalls_of_body (nt := 2) (rs := [.cell 0 26]) Try.func19 rfl rfl (Nat.le_of_ble_eq_true rfl) rfl ?_
  refine vwp_monoW (Q' := FnE (fun E' lw lc => Weak E' lw lc [(0, .ptr (low.length + 0) 0 0 0)] low [⟨26, 3, [.agg [.bool r.Over, .int .i64 r.Since, .int .i64 r.Last]], 0⟩])) ?_ ?_
  · unfold F_ref17_Begin at hF
    refine vwp_seq ?_
    refine vwp_region ?_
    refine vops_efE (vef_allocN rfl rfl tz_26 rfl rfl (Nat.succ_pos _) rfl) rfl ?_
    refine vops_nil ?_
    refine vwp_seq ?_
    refine vwp_region ?_
    refine vops_rd (rd_build (vs := [(0, .bool true), (1, .int .i64 (-1))]) (ds := [.bool true, .int .i64 (-1), .int .i64 0]) tz_26 rfl rfl tp_26 ⟨rfl, rfl, rfl, rfl, trivial⟩ (nt_all2 rfl) rfl) rfl ?_
    refine vops_efE (vef_store (p := .agg [.bool true, .int .i64 (-1), .int .i64 0]) (e' := .agg [.bool true, .int .i64 (-1), .int .i64 0]) rfl (getO_N rfl rfl) rfl rfl ts_26 rfl (nt_ne rfl) rfl (Nat.le_of_ble_eq_true rfl) rfl (setO_N rfl rfl)) rfl ?_
    refine vops_nil ?_
    refine vwp_ret ?_
    obtain rfl := Option.some.inj hF
    refine fnR ?_
    exact weak_sub ⟨rfl, trivial⟩
  · rintro _ _ _ _ ⟨he, hw⟩
    refine ⟨_, _, _, hw, ?_⟩
    exact bodyQ_pure he [.agg [.bool r.Over, .int .i64 r.Since, .int .i64 r.Last]] ⟨rd_loadN rfl (getO_N rfl rfl) rfl ta_26 ts_26 rfl rfl rfl, trivial⟩ ((lt_agg ⟨.bool _, .int _ _, .int _ _, trivial⟩)) ⟨rfl, rfl⟩

theorem F_level_Next_ok {p0 : T_Level} {p1 : T_Watch} {r : Int} (hF : F_level_Next p0 p1 = some r) (low : List AObj) :
    VCalls Try.prog 21 [.agg [.int .i64 p0.Cut, .int .i64 p0.Clear, .int .i64 p0.Delay], .agg [.bool p1.Over, .int .i64 p1.Since, .int .i64 p1.Last]] low fun x low' => x = .int .i64 r ∧ low' = low := by
  refine vcalls_of_body (nt := 18) (rs := [.tmp 4]) Try.func21 rfl rfl (Nat.le_of_ble_eq_true rfl) rfl ?_
  refine vwp_monoW (Q' := FnE (fun E' lw lc => Weak E' lw lc [(4, .int .i64 r)] low [])) ?_ ?_
  · unfold F_level_Next at hF
    refine vwp_seq ?_
    refine vwp_region ?_
    refine vops_efE (vef_boxN rfl rfl (v := .agg [.int .i64 p0.Cut, .int .i64 p0.Clear, .int .i64 p0.Delay]) rfl rfl (Nat.succ_pos _) rfl rfl) rfl ?_
    refine vops_efE (vef_boxN rfl rfl (v := .agg [.bool p1.Over, .int .i64 p1.Since, .int .i64 p1.Last]) rfl rfl (Nat.succ_pos _) rfl rfl) rfl ?_
    refine vops_rd (rd_asI rfl) rfl ?_
    refine vops_nil ?_
    refine vwp_seq ?_
    refine vwp_seq ?_
    obtain ⟨o1, ho1, hF⟩ := bnd hF
    refine vwp_monoW (Q' := (fun o1 => OnlyE .normal (fun E' lw lc => Weak E' lw lc [(2, .ptr (low.length + 0) 0 0 0), (3, .ptr (low.length + 1) 0 0 0), (12, .bool o1)] low [⟨24, 3, [.agg [.int .i64 p0.Cut, .int .i64 p0.Clear, .int .i64 p0.Delay]], 0⟩, ⟨26, 3, [.agg [.bool p1.Over, .int .i64 p1.Since, .int .i64 p1.Last]], 0⟩])) o1) ?_ ?_
    · replace hF := ho1
      refine vwp_region ?_
      obtain ⟨x2, h3, hF⟩ := bnd hF
      rcases Bool.eq_false_or_eq_true (decide (x2 ≠ 0)) with c4 | c4
      · have hF := bifT c4 hF
        refine vops_rd (rd_loadN (ds := [.int .i64 p0.Cut, .int .i64 p0.Clear, .int .i64 p0.Delay]) rfl (getO_N rfl rfl) rfl ta_24 ts_24 rfl rfl rfl) rfl ?_
        refine vops_efE (vef_callP rfl Try.call17 (F_level_Check_ok h3 _)) rfl ?_
        refine vops_rd (rd_neq rfl rfl) rfl ?_
        refine vops_rd (rd_mvB rfl) rfl ?_
        refine vops_skip rfl rfl (neT c4) rfl ?_
        refine vops_skip rfl rfl (neT c4) rfl ?_
        refine vops_skip rfl rfl (neT c4) rfl ?_
        refine vops_rd (rd_pickT (congrArg PV.bool c4) rfl) rfl ?_
        refine vops_nil ?_
        obtain rfl := Option.some.inj hF
        refine onlyE ?_
        exact weak_sub ⟨rfl, rfl, rfl, trivial⟩
      · have hF := bifF c4 hF
        refine vops_rd (rd_loadN (ds := [.int .i64 p0.Cut, .int .i64 p0.Clear, .int .i64 p0.Delay]) rfl (getO_N rfl rfl) rfl ta_24 ts_24 rfl rfl rfl) rfl ?_
        refine vops_efE (vef_callP rfl Try.call17 (F_level_Check_ok h3 _)) rfl ?_
        refine vops_rd (rd_neq rfl rfl) rfl ?_
        refine vops_rd (rd_mvB rfl) rfl ?_
        refine vops_take rfl (congrArg PV.bool c4) ?_
        refine vops_rd (rd_fieldAddr rfl tf_26_1 ts_3 (by decide)) rfl ?_
        refine vops_take rfl (congrArg PV.bool c4) ?_
        refine vops_rd (rd_load1 rfl (getO_N rfl rfl) rfl ta_3 rfl) rfl ?_
        refine vops_take rfl (congrArg PV.bool c4) ?_
        refine vops_rd (rd_lss rfl rfl) rfl ?_
        refine vops_rd (rd_pickF (congrArg PV.bool c4) rfl) rfl ?_
        refine vops_nil ?_
        obtain rfl := Option.some.inj hF
        refine onlyE ?_
        exact weak_sub ⟨rfl, rfl, rfl, trivial⟩
    · rintro _ _ _ _ ⟨rfl, hw⟩
      refine ⟨_, _, _, hw, ?_⟩
      refine vwp_cond rfl (fun c5 => ?_) (fun c5 => ?_)
      · have hF := bifT c5 hF
        refine vwp_seq ?_
        refine vwp_region ?_
        refine vops_rd (rd_asI rfl) rfl ?_
        refine vops_nil ?_
        refine vwp_ret ?_
        obtain rfl := Option.some.inj hF
        refine fnR ?_
        exact weak_pick rfl [] (by decide) ⟨rn_low rfl (.int _ _), trivial⟩ trivial
      · have hF := bifF c5 hF
        refine vwp_skip ?_
        refine vwp_seq ?_
        refine vwp_region ?_
        refine vops_rd (rd_fieldAddr rfl tf_26_1 ts_3 (by decide)) rfl ?_
        refine vops_rd (rd_load1 rfl (getO_N rfl rfl) rfl ta_3 rfl) rfl ?_
        refine vops_rd (rd_fieldAddr rfl tf_24_2 ts_3 (by decide)) rfl ?_
        refine vops_rd (rd_load1 rfl (getO_N rfl rfl) rfl ta_3 rfl) rfl ?_
        refine vops_rd (rd_add rfl rfl rfl) rfl ?_
        refine vops_rd (rd_asI rfl) rfl ?_
        refine vops_nil ?_
        refine vwp_ret ?_
        obtain rfl := Option.some.inj hF
        refine fnR ?_
        exact weak_pick rfl [] (by decide) ⟨rn_low rfl (.int _ _), trivial⟩ trivial
  · rintro _ _ _ _ ⟨he, hw⟩
    refine ⟨_, _, _, hw, ?_⟩
    exact bodyQ_pure he [.int .i64 r] ⟨rfl, trivial⟩ (.int _ _) ⟨rfl, rfl⟩

theorem F_law17_awake_ok  {r : Bool} (hF : F_law17_awake = some r) (low : List AObj) :
    VCalls Try.prog 20 [] low fun x low' => x = .bool r ∧ low' = low := by
  refine vcalls_of_body (nt := 52) (rs := [.tmp 0]) Try.func20 rfl rfl (Nat.le_of_ble_eq_true rfl) rfl ?_
  refine vwp_monoW (Q' := FnE (fun E' lw lc => Weak E' lw lc [(0, .bool r)] low [])) ?_ ?_
  · unfold F_law17_awake at hF
    refine vwp_seq ?_
    refine vwp_region ?_
    refine vops_rd (rd_asB rfl) rfl ?_
    refine vops_nil ?_
    refine vwp_seq ?_
    refine vwp_region ?_
    refine vops_rd (rd_build (vs := [(0, .int .i64 100), (1, .int .i64 80), (2, .int .i64 10)]) (ds := [.int .i64 100, .int .i64 80, .int .i64 10]) tz_24 rfl rfl tp_24 ⟨rfl, rfl, rfl, rfl, rfl, rfl, trivial⟩ (nt_all2 rfl) rfl) rfl ?_
    refine vops_efE (vef_allocN rfl rfl tz_24 rfl rfl (Nat.succ_pos _) rfl) rfl ?_
    refine vops_efE (vef_store (p := .agg [.int .i64 100, .int .i64 80, .int .i64 10]) (e' := .agg [.int .i64 100, .int .i64 80, .int .i64 10]) rfl (getO_N rfl rfl) rfl rfl ts_24 rfl (nt_ne rfl) rfl (Nat.le_of_ble_eq_true rfl) rfl (setO_N rfl rfl)) rfl ?_
    refine vops_nil ?_
    refine vwp_seq ?_
    refine vwp_region ?_
    refine vops_rd (rd_build (vs := [(0, .int .i64 70), (1, .int .i64 70)]) (ds := [.int .i64 70, .int .i64 70]) tz_28 rfl rfl tp_28 ⟨rfl, rfl, rfl, rfl, trivial⟩ (nt_all2 rfl) rfl) rfl ?_
    refine vops_efE (vef_allocN rfl rfl tz_28 rfl rfl (Nat.succ_pos _) rfl) rfl ?_
    refine vops_efE (vef_store (p := .agg [.int .i64 70, .int .i64 70]) (e' := .agg [.int .i64 70, .int .i64 70]) rfl (getO_N rfl rfl) rfl rfl ts_28 rfl (nt_ne rfl) rfl (Nat.le_of_ble_eq_true rfl) rfl (setO_N rfl rfl)) rfl ?_
    refine vops_nil ?_
    refine vwp_seq ?_
    obtain ⟨x1, h2, hF⟩ := bnd hF
    obtain ⟨x3, h4, hF⟩ := bnd hF
    refine vwp_drawn [[], [], [], [0, 1, 2], [0, 1, 2, 3], [0, 1, 2, 3, 4], [0, 1, 2, 3, 4], [], [0, 1, 2, 3, 4, 5, 7], [0, 1, 2, 3, 4, 5, 6, 7, 8]] [false, false, false, false, false, false, false, true, true, false] [(low, [⟨24, 3, [.agg [.int .i64 100, .int .i64 80, .int .i64 10]], 0⟩, ⟨28, 2, [.agg [.int .i64 70, .int .i64 70]], 0⟩]), (low, [⟨24, 3, [.agg [.int .i64 100, .int .i64 80, .int .i64 10]], 0⟩, ⟨28, 2, [.agg [.int .i64 70, .int .i64 70]], 0⟩, ⟨26, 3, [.agg [.bool false, .int .i64 0, .int .i64 0]], 0⟩]), (low, [⟨24, 3, [.agg [.int .i64 100, .int .i64 80, .int .i64 10]], 0⟩, ⟨28, 2, [.agg [.int .i64 70, .int .i64 70]], 0⟩, ⟨26, 3, [.agg [.bool x3.1.Over, .int .i64 x3.1.Since, .int .i64 x3.1.Last]], 0⟩])] mixed (by kernel_rfl) rfl (lenAll (all1 rfl (all1 rfl (all1 rfl all0)))) rfl (low, [⟨24, 3, [.agg [.int .i64 100, .int .i64 80, .int .i64 10]], 0⟩, ⟨28, 2, [.agg [.int .i64 70, .int .i64 70]], 0⟩, ⟨26, 3, [.agg [.bool x3.1.Over, .int .i64 x3.1.Since, .int .i64 x3.1.Last]], 0⟩]) rfl rfl ?_
    refine dops_rdW [(low, [⟨24, 3, [.agg [.int .i64 100, .int .i64 80, .int .i64 10]], 0⟩, ⟨28, 2, [.agg [.int .i64 70, .int .i64 70]], 0⟩]), (low, [⟨24, 3, [.agg [.int .i64 100, .int .i64 80, .int .i64 10]], 0⟩, ⟨28, 2, [.agg [.int .i64 70, .int .i64 70]], 0⟩, ⟨26, 3, [.agg [.bool false, .int .i64 0, .int .i64 0]], 0⟩])] rfl rfl (all1 (VRd.ntl (rd_loadN (ds := [.int .i64 100, .int .i64 80, .int .i64 10]) rfl (getO_N rfl rfl) rfl ta_24 ts_24 rfl rfl rfl)) (all1 (VRd.ntl (rd_loadN (ds := [.int .i64 100, .int .i64 80, .int .i64 10]) rfl (getO_N rfl rfl) rfl ta_24 ts_24 rfl rfl rfl)) all0)) ?_
    refine dops_rdW [(low, [⟨24, 3, [.agg [.int .i64 100, .int .i64 80, .int .i64 10]], 0⟩, ⟨28, 2, [.agg [.int .i64 70, .int .i64 70]], 0⟩]), (low, [⟨24, 3, [.agg [.int .i64 100, .int .i64 80, .int .i64 10]], 0⟩, ⟨28, 2, [.agg [.int .i64 70, .int .i64 70]], 0⟩, ⟨26, 3, [.agg [.bool false, .int .i64 0, .int .i64 0]], 0⟩])] rfl rfl (all1 (nt_of (vef_callP rfl Try.call14 (F_level_Begin_ok h2 _))) (all1 (nt_of (vef_callP rfl Try.call14 (F_level_Begin_ok h2 _))) all0)) ?_
    refine dops_rdW [(low, [⟨24, 3, [.agg [.int .i64 100, .int .i64 80, .int .i64 10]], 0⟩, ⟨28, 2, [.agg [.int .i64 70, .int .i64 70]], 0⟩]), (low, [⟨24, 3, [.agg [.int .i64 100, .int .i64 80, .int .i64 10]], 0⟩, ⟨28, 2, [.agg [.int .i64 70, .int .i64 70]], 0⟩, ⟨26, 3, [.agg [.bool false, .int .i64 0, .int .i64 0]], 0⟩])] rfl rfl (all1 (VRd.ntl (rd_loadN (ds := [.int .i64 70, .int .i64 70]) rfl (getO_N rfl rfl) rfl ta_28 ts_28 rfl rfl rfl)) (all1 (VRd.ntl (rd_loadN (ds := [.int .i64 70, .int .i64 70]) rfl (getO_N rfl rfl) rfl ta_28 ts_28 rfl rfl rfl)) all0)) ?_
    refine dops_rdW [(low, [⟨24, 3, [.agg [.int .i64 100, .int .i64 80, .int .i64 10]], 0⟩, ⟨28, 2, [.agg [.int .i64 70, .int .i64 70]], 0⟩]), (low, [⟨24, 3, [.agg [.int .i64 100, .int .i64 80, .int .i64 10]], 0⟩, ⟨28, 2, [.agg [.int .i64 70, .int .i64 70]], 0⟩, ⟨26, 3, [.agg [.bool false, .int .i64 0, .int .i64 0]], 0⟩])] rfl rfl (all1 (nt_of (vef_callP rfl Try.call15 (F_level_Step_ok h4 _))) (all1 (nt_of (vef_callP rfl Try.call15 (F_level_Step_ok h4 _))) all0)) ?_
    refine dops_rdW [(low, [⟨24, 3, [.agg [.int .i64 100, .int .i64 80, .int .i64 10]], 0⟩, ⟨28, 2, [.agg [.int .i64 70, .int .i64 70]], 0⟩]), (low, [⟨24, 3, [.agg [.int .i64 100, .int .i64 80, .int .i64 10]], 0⟩, ⟨28, 2, [.agg [.int .i64 70, .int .i64 70]], 0⟩, ⟨26, 3, [.agg [.bool false, .int .i64 0, .int .i64 0]], 0⟩])] rfl rfl (all1 (VRd.ntl (rd_mvT rfl)) (all1 (VRd.ntl (rd_mvT rfl)) all0)) ?_
    refine dops_rdW [(low, [⟨24, 3, [.agg [.int .i64 100, .int .i64 80, .int .i64 10]], 0⟩, ⟨28, 2, [.agg [.int .i64 70, .int .i64 70]], 0⟩]), (low, [⟨24, 3, [.agg [.int .i64 100, .int .i64 80, .int .i64 10]], 0⟩, ⟨28, 2, [.agg [.int .i64 70, .int .i64 70]], 0⟩, ⟨26, 3, [.agg [.bool false, .int .i64 0, .int .i64 0]], 0⟩])] rfl rfl (all1 (VRd.ntl (rd_extract rfl rfl)) (all1 (VRd.ntl (rd_extract rfl rfl)) all0)) ?_
    refine dops_rdW [(low, [⟨24, 3, [.agg [.int .i64 100, .int .i64 80, .int .i64 10]], 0⟩, ⟨28, 2, [.agg [.int .i64 70, .int .i64 70]], 0⟩]), (low, [⟨24, 3, [.agg [.int .i64 100, .int .i64 80, .int .i64 10]], 0⟩, ⟨28, 2, [.agg [.int .i64 70, .int .i64 70]], 0⟩, ⟨26, 3, [.agg [.bool false, .int .i64 0, .int .i64 0]], 0⟩]), (low, [⟨24, 3, [.agg [.int .i64 100, .int .i64 80, .int .i64 10]], 0⟩, ⟨28, 2, [.agg [.int .i64 70, .int .i64 70]], 0⟩, ⟨26, 3, [.agg [.bool x3.1.Over, .int .i64 x3.1.Since, .int .i64 x3.1.Last]], 0⟩])] rfl rfl (all1 (VRd.ntl (rd_extract rfl rfl)) (all1 (VRd.ntl (rd_extract rfl rfl)) (all1 (VRd.ntl (rd_extract rfl rfl)) all0))) ?_
    refine dops_ef (M := (low, [⟨24, 3, [.agg [.int .i64 100, .int .i64 80, .int .i64 10]], 0⟩, ⟨28, 2, [.agg [.int .i64 70, .int .i64 70]], 0⟩])) (M' := (low, [⟨24, 3, [.agg [.int .i64 100, .int .i64 80, .int .i64 10]], 0⟩, ⟨28, 2, [.agg [.int .i64 70, .int .i64 70]], 0⟩, ⟨26, 3, [.agg [.bool false, .int .i64 0, .int .i64 0]], 0⟩])) rfl rfl rfl (vef_allocN rfl rfl tz_26 rfl rfl (Nat.succ_pos _) rfl) ?_
    refine dops_ef (M := (low, [⟨24, 3, [.agg [.int .i64 100, .int .i64 80, .int .i64 10]], 0⟩, ⟨28, 2, [.agg [.int .i64 70, .int .i64 70]], 0⟩, ⟨26, 3, [.agg [.bool false, .int .i64 0, .int .i64 0]], 0⟩])) (M' := (low, [⟨24, 3, [.agg [.int .i64 100, .int .i64 80, .int .i64 10]], 0⟩, ⟨28, 2, [.agg [.int .i64 70, .int .i64 70]], 0⟩, ⟨26, 3, [.agg [.bool x3.1.Over, .int .i64 x3.1.Since, .int .i64 x3.1.Last]], 0⟩])) rfl rfl rfl (vef_store (p := .agg [.bool x3.1.Over, .int .i64 x3.1.Since, .int .i64 x3.1.Last]) (e' := .agg [.bool x3.1.Over, .int .i64 x3.1.Since, .int .i64 x3.1.Last]) rfl (getO_N rfl rfl) rfl rfl ts_26 rfl (nt_ne rfl) rfl (Nat.le_of_ble_eq_true rfl) rfl (setO_N rfl rfl)) ?_
    refine dops_rdW [(low, [⟨24, 3, [.agg [.int .i64 100, .int .i64 80, .int .i64 10]], 0⟩, ⟨28, 2, [.agg [.int .i64 70, .int .i64 70]], 0⟩, ⟨26, 3, [.agg [.bool x3.1.Over, .int .i64 x3.1.Since, .int .i64 x3.1.Last]], 0⟩])] rfl rfl (all1 (VRd.ntl (rd_asI rfl)) all0) ?_
    refine dops_nil ?_
    refine vwp_seq ?_
    refine vwp_region ?_
    obtain ⟨x5, h6, hF⟩ := bnd hF
    refine vops_rd (rd_loadN (ds := [.int .i64 100, .int .i64 80, .int .i64 10]) rfl (getO_N rfl rfl) rfl ta_24 ts_24 rfl rfl rfl) rfl ?_
    refine vops_rd (rd_loadN (ds := [.bool x3.1.Over, .int .i64 x3.1.Since, .int .i64 x3.1.Last]) rfl (getO_N rfl rfl) rfl ta_26 ts_26 rfl rfl rfl) rfl ?_
    refine vops_efE (vef_callP rfl Try.call21 (F_level_Next_ok h6 _)) rfl ?_
    refine vops_rd (rd_asI rfl) rfl ?_
    refine vops_nil ?_
    refine vwp_seq ?_
    refine vwp_region ?_
    obtain ⟨x7, h8, hF⟩ := bnd hF
    refine vops_rd (rd_loadN (ds := [.int .i64 100, .int .i64 80, .int .i64 10]) rfl (getO_N rfl rfl) rfl ta_24 ts_24 rfl rfl rfl) rfl ?_
    refine vops_rd (rd_loadN (ds := [.bool x3.1.Over, .int .i64 x3.1.Since, .int .i64 x3.1.Last]) rfl (getO_N rfl rfl) rfl ta_26 ts_26 rfl rfl rfl) rfl ?_
    refine vops_rd (rd_loadN (ds := [.int .i64 70, .int .i64 70]) rfl (getO_N rfl rfl) rfl ta_28 ts_28 rfl rfl rfl) rfl ?_
    refine vops_efE (vef_callP rfl Try.call15 (F_level_Step_ok h8 _)) rfl ?_
    refine vops_rd (rd_mvT rfl) rfl ?_
    refine vops_rd (rd_extract rfl rfl) rfl ?_
    refine vops_rd (rd_extract rfl rfl) rfl ?_
    refine vops_efE (vef_allocN rfl rfl tz_26 rfl rfl (Nat.succ_pos _) rfl) rfl ?_
    refine vops_efE (vef_store (p := .agg [.bool x7.1.Over, .int .i64 x7.1.Since, .int .i64 x7.1.Last]) (e' := .agg [.bool x7.1.Over, .int .i64 x7.1.Since, .int .i64 x7.1.Last]) rfl (getO_N rfl rfl) rfl rfl ts_26 rfl (nt_ne rfl) rfl (Nat.le_of_ble_eq_true rfl) rfl (setO_N rfl rfl)) rfl ?_
    refine vops_rd (rd_asI rfl) rfl ?_
    refine vops_nil ?_
    refine vwp_seq ?_
    refine vwp_region ?_
    obtain ⟨x9, h10, hF⟩ := bnd hF
    rcases Bool.eq_false_or_eq_true (decide (x9 = 0)) with c11 | c11
    · have hF := bifT c11 hF
      rcases Bool.eq_false_or_eq_true (decide (x3.2 = 0)) with c12 | c12
      · have hF := bifT c12 hF
        rcases Bool.eq_false_or_eq_true ((x3.1.Over == true) && ((x3.1.Since == 5) && ((x3.1.Last == 5) && true))) with c13 | c13
        · have hF := bifT c13 hF
          rcases Bool.eq_false_or_eq_true (decide (x5 = 15)) with c14 | c14
          · have hF := bifT c14 hF
            rcases Bool.eq_false_or_eq_true (decide (x7.2 = 0)) with c15 | c15
            · have hF := bifT c15 hF
              refine vops_rd (rd_loadN (ds := [.int .i64 100, .int .i64 80, .int .i64 10]) rfl (getO_N rfl rfl) rfl ta_24 ts_24 rfl rfl rfl) rfl ?_
              refine vops_efE (vef_callP rfl Try.call17 (F_level_Check_ok h10 _)) rfl ?_
              refine vops_rd (rd_eql rfl rfl) rfl ?_
              refine vops_rd (rd_mvB rfl) rfl ?_
              refine vops_take rfl (congrArg PV.bool c11) ?_
              refine vops_rd (rd_mvI rfl) rfl ?_
              refine vops_take rfl (congrArg PV.bool c11) ?_
              refine vops_rd (rd_eql rfl rfl) rfl ?_
              refine vops_rd (rd_pickT (congrArg PV.bool c11) rfl) rfl ?_
              refine vops_rd (rd_mvB rfl) rfl ?_
              refine vops_take rfl (congrArg PV.bool c12) ?_
              refine vops_rd (rd_loadN (ds := [.bool x3.1.Over, .int .i64 x3.1.Since, .int .i64 x3.1.Last]) rfl (getO_N rfl rfl) rfl ta_26 ts_26 rfl rfl rfl) rfl ?_
              refine vops_take rfl (congrArg PV.bool c12) ?_
              refine vops_rd (rd_build (vs := [(0, .bool true), (1, .int .i64 5), (2, .int .i64 5)]) (ds := [.bool true, .int .i64 5, .int .i64 5]) tz_26 rfl rfl tp_26 ⟨rfl, rfl, rfl, rfl, rfl, rfl, trivial⟩ (nt_all2 rfl) rfl) rfl ?_
              refine vops_take rfl (congrArg PV.bool c12) ?_
              refine vops_rd (rd_eqlV (tab := eqTab) eqTab_ok rfl rfl eqg_26 rfl) rfl ?_
              refine vops_rd (rd_pickT (congrArg PV.bool c12) rfl) rfl ?_
              refine vops_rd (rd_mvB rfl) rfl ?_
              refine vops_take rfl (congrArg PV.bool c13) ?_
              refine vops_rd (rd_mvI rfl) rfl ?_
              refine vops_take rfl (congrArg PV.bool c13) ?_
              refine vops_rd (rd_eql rfl rfl) rfl ?_
              refine vops_rd (rd_pickT (congrArg PV.bool c13) rfl) rfl ?_
              refine vops_rd (rd_mvB rfl) rfl ?_
              refine vops_take rfl (congrArg PV.bool c14) ?_
              refine vops_rd (rd_mvI rfl) rfl ?_
              refine vops_take rfl (congrArg PV.bool c14) ?_
              refine vops_rd (rd_eql rfl rfl) rfl ?_
              refine vops_rd (rd_pickT (congrArg PV.bool c14) rfl) rfl ?_
              refine vops_rd (rd_mvB rfl) rfl ?_
              refine vops_take rfl (congrArg PV.bool c15) ?_
              refine vops_rd (rd_loadN (ds := [.bool x7.1.Over, .int .i64 x7.1.Since, .int .i64 x7.1.Last]) rfl (getO_N rfl rfl) rfl ta_26 ts_26 rfl rfl rfl) rfl ?_
              refine vops_take rfl (congrArg PV.bool c15) ?_
              refine vops_rd (rd_build (vs := [(1, .int .i64 (-1)), (2, .int .i64 15)]) (ds := [.bool false, .int .i64 (-1), .int .i64 15]) tz_26 rfl rfl tp_26 ⟨rfl, rfl, rfl, rfl, trivial⟩ (nt_all2 rfl) rfl) rfl ?_
              refine vops_take rfl (congrArg PV.bool c15) ?_
              refine vops_rd (rd_eqlV (tab := eqTab) eqTab_ok rfl rfl eqg_26 rfl) rfl ?_
              refine vops_rd (rd_pickT (congrArg PV.bool c15) rfl) rfl ?_
              refine vops_rd (rd_asB rfl) rfl ?_
              refine vops_nil ?_
              refine vwp_ret ?_
              obtain rfl := Option.some.inj hF
              refine fnR ?_
              exact weak_pick rfl [] (by decide) ⟨rn_low rfl (.bool _), trivial⟩ trivial
            · have hF := bifF c15 hF
              refine vops_rd (rd_loadN (ds := [.int .i64 100, .int .i64 80, .int .i64 10]) rfl (getO_N rfl rfl) rfl ta_24 ts_24 rfl rfl rfl) rfl ?_
              refine vops_efE (vef_callP rfl Try.call17 (F_level_Check_ok h10 _)) rfl ?_
              refine vops_rd (rd_eql rfl rfl) rfl ?_
              refine vops_rd (rd_mvB rfl) rfl ?_
              refine vops_take rfl (congrArg PV.bool c11) ?_
              refine vops_rd (rd_mvI rfl) rfl ?_
              refine vops_take rfl (congrArg PV.bool c11) ?_
              refine vops_rd (rd_eql rfl rfl) rfl ?_
              refine vops_rd (rd_pickT (congrArg PV.bool c11) rfl) rfl ?_
              refine vops_rd (rd_mvB rfl) rfl ?_
              refine vops_take rfl (congrArg PV.bool c12) ?_
              refine vops_rd (rd_loadN (ds := [.bool x3.1.Over, .int .i64 x3.1.Since, .int .i64 x3.1.Last]) rfl (getO_N rfl rfl) rfl ta_26 ts_26 rfl rfl rfl) rfl ?_
              refine vops_take rfl (congrArg PV.bool c12) ?_
              refine vops_rd (rd_build (vs := [(0, .bool true), (1, .int .i64 5), (2, .int .i64 5)]) (ds := [.bool true, .int .i64 5, .int .i64 5]) tz_26 rfl rfl tp_26 ⟨rfl, rfl, rfl, rfl, rfl, rfl, trivial⟩ (nt_all2 rfl) rfl) rfl ?_
              refine vops_take rfl (congrArg PV.bool c12) ?_
              refine vops_rd (rd_eqlV (tab := eqTab) eqTab_ok rfl rfl eqg_26 rfl) rfl ?_
              refine vops_rd (rd_pickT (congrArg PV.bool c12) rfl) rfl ?_
              refine vops_rd (rd_mvB rfl) rfl ?_
              refine vops_take rfl (congrArg PV.bool c13) ?_
              refine vops_rd (rd_mvI rfl) rfl ?_
              refine vops_take rfl (congrArg PV.bool c13) ?_
              refine vops_rd (rd_eql rfl rfl) rfl ?_
              refine vops_rd (rd_pickT (congrArg PV.bool c13) rfl) rfl ?_
              refine vops_rd (rd_mvB rfl) rfl ?_
              refine vops_take rfl (congrArg PV.bool c14) ?_
              refine vops_rd (rd_mvI rfl) rfl ?_
              refine vops_take rfl (congrArg PV.bool c14) ?_
              refine vops_rd (rd_eql rfl rfl) rfl ?_
              refine vops_rd (rd_pickT (congrArg PV.bool c14) rfl) rfl ?_
              refine vops_rd (rd_mvB rfl) rfl ?_
              refine vops_skip rfl rfl (neF c15) rfl ?_
              refine vops_skip rfl rfl (neF c15) rfl ?_
              refine vops_skip rfl rfl (neF c15) rfl ?_
              refine vops_rd (rd_pickF (congrArg PV.bool c15) rfl) rfl ?_
              refine vops_rd (rd_asB rfl) rfl ?_
              refine vops_nil ?_
              refine vwp_ret ?_
              obtain rfl := Option.some.inj hF
              refine fnR ?_
              exact weak_pick rfl [] (by decide) ⟨rn_low rfl (.bool _), trivial⟩ trivial
          · have hF := bifF c14 hF
            refine vops_rd (rd_loadN (ds := [.int .i64 100, .int .i64 80, .int .i64 10]) rfl (getO_N rfl rfl) rfl ta_24 ts_24 rfl rfl rfl) rfl ?_
            refine vops_efE (vef_callP rfl Try.call17 (F_level_Check_ok h10 _)) rfl ?_
            refine vops_rd (rd_eql rfl rfl) rfl ?_
            refine vops_rd (rd_mvB rfl) rfl ?_
            refine vops_take rfl (congrArg PV.bool c11) ?_
            refine vops_rd (rd_mvI rfl) rfl ?_
            refine vops_take rfl (congrArg PV.bool c11) ?_
            refine vops_rd (rd_eql rfl rfl) rfl ?_
            refine vops_rd (rd_pickT (congrArg PV.bool c11) rfl) rfl ?_
            refine vops_rd (rd_mvB rfl) rfl ?_
            refine vops_take rfl (congrArg PV.bool c12) ?_
            refine vops_rd (rd_loadN (ds := [.bool x3.1.Over, .int .i64 x3.1.Since, .int .i64 x3.1.Last]) rfl (getO_N rfl rfl) rfl ta_26 ts_26 rfl rfl rfl) rfl ?_
            refine vops_take rfl (congrArg PV.bool c12) ?_
            refine vops_rd (rd_build (vs := [(0, .bool true), (1, .int .i64 5), (2, .int .i64 5)]) (ds := [.bool true, .int .i64 5, .int .i64 5]) tz_26 rfl rfl tp_26 ⟨rfl, rfl, rfl, rfl, rfl, rfl, trivial⟩ (nt_all2 rfl) rfl) rfl ?_
            refine vops_take rfl (congrArg PV.bool c12) ?_
            refine vops_rd (rd_eqlV (tab := eqTab) eqTab_ok rfl rfl eqg_26 rfl) rfl ?_
            refine vops_rd (rd_pickT (congrArg PV.bool c12) rfl) rfl ?_
            refine vops_rd (rd_mvB rfl) rfl ?_
            refine vops_take rfl (congrArg PV.bool c13) ?_
            refine vops_rd (rd_mvI rfl) rfl ?_
            refine vops_take rfl (congrArg PV.bool c13) ?_
            refine vops_rd (rd_eql rfl rfl) rfl ?_
            refine vops_rd (rd_pickT (congrArg PV.bool c13) rfl) rfl ?_
            refine vops_rd (rd_mvB rfl) rfl ?_
            refine vops_skip rfl rfl (neF c14) rfl ?_
            refine vops_skip rfl rfl (neF c14) rfl ?_
            refine vops_rd (rd_pickF (congrArg PV.bool c14) rfl) rfl ?_
            refine vops_rd (rd_mvB rfl) rfl ?_
            refine vops_skip rfl rfl (by decide) rfl ?_
            refine vops_skip rfl rfl (by decide) rfl ?_
            refine vops_skip rfl rfl (by decide) rfl ?_
            refine vops_rd (rd_pickF rfl rfl) rfl ?_
            refine vops_rd (rd_asB rfl) rfl ?_
            refine vops_nil ?_
            refine vwp_ret ?_
            obtain rfl := Option.some.inj hF
            refine fnR ?_
            exact weak_pick rfl [] (by decide) ⟨rn_low rfl (.bool _), trivial⟩ trivial
        · have hF := bifF c13 hF
          refine vops_rd (rd_loadN (ds := [.int .i64 100, .int .i64 80, .int .i64 10]) rfl (getO_N rfl rfl) rfl ta_24 ts_24 rfl rfl rfl) rfl ?_
          refine vops_efE (vef_callP rfl Try.call17 (F_level_Check_ok h10 _)) rfl ?_
          refine vops_rd (rd_eql rfl rfl) rfl ?_
          refine vops_rd (rd_mvB rfl) rfl ?_
          refine vops_take rfl (congrArg PV.bool c11) ?_
          refine vops_rd (rd_mvI rfl) rfl ?_
          refine vops_take rfl (congrArg PV.bool c11) ?_
          refine vops_rd (rd_eql rfl rfl) rfl ?_
          refine vops_rd (rd_pickT (congrArg PV.bool c11) rfl) rfl ?_
          refine vops_rd (rd_mvB rfl) rfl ?_
          refine vops_take rfl (congrArg PV.bool c12) ?_
          refine vops_rd (rd_loadN (ds := [.bool x3.1.Over, .int .i64 x3.1.Since, .int .i64 x3.1.Last]) rfl (getO_N rfl rfl) rfl ta_26 ts_26 rfl rfl rfl) rfl ?_
          refine vops_take rfl (congrArg PV.bool c12) ?_
          refine vops_rd (rd_build (vs := [(0, .bool true), (1, .int .i64 5), (2, .int .i64 5)]) (ds := [.bool true, .int .i64 5, .int .i64 5]) tz_26 rfl rfl tp_26 ⟨rfl, rfl, rfl, rfl, rfl, rfl, trivial⟩ (nt_all2 rfl) rfl) rfl ?_
          refine vops_take rfl (congrArg PV.bool c12) ?_
          refine vops_rd (rd_eqlV (tab := eqTab) eqTab_ok rfl rfl eqg_26 rfl) rfl ?_
          refine vops_rd (rd_pickT (congrArg PV.bool c12) rfl) rfl ?_
          refine vops_rd (rd_mvB rfl) rfl ?_
          refine vops_skip rfl rfl (neF c13) rfl ?_
          refine vops_skip rfl rfl (neF c13) rfl ?_
          refine vops_rd (rd_pickF (congrArg PV.bool c13) rfl) rfl ?_
          refine vops_rd (rd_mvB rfl) rfl ?_
          refine vops_skip rfl rfl (by decide) rfl ?_
          refine vops_skip rfl rfl (by decide) rfl ?_
          refine vops_rd (rd_pickF rfl rfl) rfl ?_
          refine vops_rd (rd_mvB rfl) rfl ?_
          refine vops_skip rfl rfl (by decide) rfl ?_
          refine vops_skip rfl rfl (by decide) rfl ?_
          refine vops_skip rfl rfl (by decide) rfl ?_
          refine vops_rd (rd_pickF rfl rfl) rfl ?_
          refine vops_rd (rd_asB rfl) rfl ?_
          refine vops_nil ?_
          refine vwp_ret ?_
          obtain rfl := Option.some.inj hF
          refine fnR ?_
          exact weak_pick rfl [] (by decide) ⟨rn_low rfl (.bool _), trivial⟩ trivial
      · have hF := bifF c12 hF
        refine vops_rd (rd_loadN (ds := [.int .i64 100, .int .i64 80, .int .i64 10]) rfl (getO_N rfl rfl) rfl ta_24 ts_24 rfl rfl rfl) rfl ?_
        refine vops_efE (vef_callP rfl Try.call17 (F_level_Check_ok h10 _)) rfl ?_
        refine vops_rd (rd_eql rfl rfl) rfl ?_
        refine vops_rd (rd_mvB rfl) rfl ?_
        refine vops_take rfl (congrArg PV.bool c11) ?_
        refine vops_rd (rd_mvI rfl) rfl ?_
        refine vops_take rfl (congrArg PV.bool c11) ?_
        refine vops_rd (rd_eql rfl rfl) rfl ?_
        refine vops_rd (rd_pickT (congrArg PV.bool c11) rfl) rfl ?_
        refine vops_rd (rd_mvB rfl) rfl ?_
        refine vops_skip rfl rfl (neF c12) rfl ?_
        refine vops_skip rfl rfl (neF c12) rfl ?_
        refine vops_skip rfl rfl (neF c12) rfl ?_
        refine vops_rd (rd_pickF (congrArg PV.bool c12) rfl) rfl ?_
        refine vops_rd (rd_mvB rfl) rfl ?_
        refine vops_skip rfl rfl (by decide) rfl ?_
        refine vops_skip rfl rfl (by decide) rfl ?_
        refine vops_rd (rd_pickF rfl rfl) rfl ?_
        refine vops_rd (rd_mvB rfl) rfl ?_
        refine vops_skip rfl rfl (by decide) rfl ?_
        refine vops_skip rfl rfl (by decide) rfl ?_
        refine vops_rd (rd_pickF rfl rfl) rfl ?_
        refine vops_rd (rd_mvB rfl) rfl ?_
        refine vops_skip rfl rfl (by decide) rfl ?_
        refine vops_skip rfl rfl (by decide) rfl ?_
        refine vops_skip rfl rfl (by decide) rfl ?_
        refine vops_rd (rd_pickF rfl rfl) rfl ?_
        refine vops_rd (rd_asB rfl) rfl ?_
        refine vops_nil ?_
        refine vwp_ret ?_
        obtain rfl := Option.some.inj hF
        refine fnR ?_
        exact weak_pick rfl [] (by decide) ⟨rn_low rfl (.bool _), trivial⟩ trivial
    · have hF := bifF c11 hF
      refine vops_rd (rd_loadN (ds := [.int .i64 100, .int .i64 80, .int .i64 10]) rfl (getO_N rfl rfl) rfl ta_24 ts_24 rfl rfl rfl) rfl ?_
      refine vops_efE (vef_callP rfl Try.call17 (F_level_Check_ok h10 _)) rfl ?_
      refine vops_rd (rd_eql rfl rfl) rfl ?_
      refine vops_rd (rd_mvB rfl) rfl ?_
      refine vops_skip rfl rfl (neF c11) rfl ?_
      refine vops_skip rfl rfl (neF c11) rfl ?_
      refine vops_rd (rd_pickF (congrArg PV.bool c11) rfl) rfl ?_
      refine vops_rd (rd_mvB rfl) rfl ?_
      refine vops_skip rfl rfl (by decide) rfl ?_
      refine vops_skip rfl rfl (by decide) rfl ?_
      refine vops_skip rfl rfl (by decide) rfl ?_
      refine vops_rd (rd_pickF rfl rfl) rfl ?_
      refine vops_rd (rd_mvB rfl) rfl ?_
      refine vops_skip rfl rfl (by decide) rfl ?_
      refine vops_skip rfl rfl (by decide) rfl ?_
      refine vops_rd (rd_pickF rfl rfl) rfl ?_
      refine vops_rd (rd_mvB rfl) rfl ?_
      refine vops_skip rfl rfl (by decide) rfl ?_
      refine vops_skip rfl rfl (by decide) rfl ?_
      refine vops_rd (rd_pickF rfl rfl) rfl ?_
      refine vops_rd (rd_mvB rfl) rfl ?_
      refine vops_skip rfl rfl (by decide) rfl ?_
      refine vops_skip rfl rfl (by decide) rfl ?_
      refine vops_skip rfl rfl (by decide) rfl ?_
      refine vops_rd (rd_pickF rfl rfl) rfl ?_
      refine vops_rd (rd_asB rfl) rfl ?_
      refine vops_nil ?_
      refine vwp_ret ?_
      obtain rfl := Option.some.inj hF
      refine fnR ?_
      exact weak_pick rfl [] (by decide) ⟨rn_low rfl (.bool _), trivial⟩ trivial
  · rintro _ _ _ _ ⟨he, hw⟩
    refine ⟨_, _, _, hw, ?_⟩
    exact bodyQ_pure he [.bool r] ⟨rfl, trivial⟩ (.bool _) ⟨rfl, rfl⟩

end Go.Proofs.Ytlbiodgefifhoaa
