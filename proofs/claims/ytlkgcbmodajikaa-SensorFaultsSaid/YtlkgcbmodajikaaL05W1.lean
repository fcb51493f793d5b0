/- Printed by wip/lift/lift.py: the walks that show that the program computes them. -/
import Derived.Test.YtlkgcbmodajikaaR05T
import Derived.Test.YtlkgcbmodajikaaAmlY
import Derived.Test.YtlkgcbmodajikaaL05D
namespace Go.Proofs.Ytlkgcbmodajikaa
open Go Go.Aml Go.L
attribute [local irreducible] VRd VEf VOp VOps VWp DOps
set_option linter.unusedVariables false
set_option maxHeartbeats 4000000

theorem mixed : Try.prog.follows .mixedOrders = true := by kernel_rfl
def eqTab : EqTab := [(3, 1, []), (33, 3, [(0, 1, false, 3), (1, 1, false, 3)]), (46, 3, [(0, 1, false, 3), (1, 1, false, 3), (2, 2, true, 33)])]
theorem eqTab_ok : eqTabOk Try.prog eqTab = true := by kernel_rfl
theorem eqg_33 : Try.prog.eqGuardType Try.prog.depth 33 = false := by kernel_rfl
theorem eqg_46 : Try.prog.eqGuardType Try.prog.depth 46 = false := by kernel_rfl

theorem F_draw_New_ok {p0 : List Int} {r : T_draw_Codes} (hF : F_draw_New p0 = some r) (low : List AObj) {n : Nat} (hn : low.length = n) :
    VCalls Try.prog 17 [.vs 1 (List.map (PV.int .u8) p0)] low fun x low' => x = .ptr (n + 0) 0 0 0 ∧ low' = low ++ [⟨64, 2, [.agg [.vs 1 (List.map (PV.int .u8) r.l), .int .i64 r.at_]], 0⟩] := by
  refine vcalls_of_body (nt := 10) (rs := [.tmp 2]) Try.func17 rfl rfl (Nat.le_of_ble_eq_true rfl) rfl ?_
  refine vwp_monoW (Q' := FnE (fun E' lw lc => Weak E' lw lc [(2, .ptr (n + 0) 0 0 0)] low [⟨64, 2, [.agg [.vs 1 (List.map (PV.int .u8) r.l), .int .i64 r.at_]], 0⟩])) ?_ ?_
  · unfold F_draw_New at hF
    refine vwp_seq ?_
    refine vwp_region ?_
    refine vops_rd (rd_asQ rfl) rfl ?_
    refine vops_nil ?_
    refine vwp_seq ?_
    refine vwp_region ?_
    obtain ⟨x1, h2, hF⟩ := bnd hF
    refine vops_rd (rd_mvV rfl) rfl ?_
    refine vops_rd (rd_mvV rfl) rfl ?_
    refine vops_rd (rd_to (rd_lenV rfl rfl te_22) (congrArg (fun n : Nat => PV.int .i64 (n : Int)) (List.length_map _))) rfl ?_
    refine vops_rd (rd_min rfl rfl) rfl ?_
    refine vops_rd (rd_slV rfl te_22 ts_5 rfl ⟨_, rfl⟩ h2) rfl ?_
    refine vops_rd (rd_build (vs := [(0, .vs 1 (List.map (PV.int .u8) x1))]) (ds := [.vs 1 (List.map (PV.int .u8) x1), .int .i64 0]) tz_64 rfl rfl tp_64 ⟨rfl, rfl, trivial⟩ (nt_all2 rfl) rfl) rfl ?_
    refine vops_efE (vef_boxN hn rfl (v := .agg [.vs 1 (List.map (PV.int .u8) x1), .int .i64 0]) rfl rfl (Nat.succ_pos _) rfl rfl) rfl ?_
    refine vops_rd (rd_asP rfl) rfl ?_
    refine vops_nil ?_
    refine vwp_ret ?_
    obtain rfl := Option.some.inj hF
    refine fnR ?_
    exact weak_sub ⟨rfl, trivial⟩
  · rintro _ _ _ _ ⟨he, hw⟩
    refine ⟨_, _, _, hw, ?_⟩
    exact bodyQ_all he [.ptr (n + 0) 0 0 0] ⟨rfl, trivial⟩ ⟨rfl, rfl⟩

theorem F_draw_Codes_Next_ok0 {p0 : T_draw_Codes} {p1 : Int} {r : T_draw_Codes × Int} (hF : F_draw_Codes_Next p0 p1 = some r) {low0 : List AObj} {q0 w0 : Nat} (hq0 : q0 < low0.length) :
    VCalls Try.prog 20 [.ptr q0 w0 0 0, .int .i64 p1] (low0.set q0 ⟨64, 2, [.agg [.vs 1 (List.map (PV.int .u8) p0.l), .int .i64 p0.at_]], w0⟩) fun x low' => x = .int .i64 r.2 ∧ low' = low0.set q0 ⟨64, 2, [.agg [.vs 1 (List.map (PV.int .u8) r.1.l), .int .i64 r.1.at_]], w0⟩ := by
  refine vcalls_of_body (nt := 77) (rs := [.tmp 4]) Try.func20 rfl rfl (Nat.le_of_ble_eq_true rfl) rfl ?_
  refine vwp_monoW (Q' := FnE (fun E' lw lc => Weak E' lw lc [(4, .int .i64 r.2)] (low0.set q0 ⟨64, 2, [.agg [.vs 1 (List.map (PV.int .u8) r.1.l), .int .i64 r.1.at_]], w0⟩) [])) ?_ ?_
  · unfold F_draw_Codes_Next at hF
    refine vwp_seq ?_
    refine vwp_region ?_
    refine vops_rd (rd_asI rfl) rfl ?_
    refine vops_nil ?_
    refine vwp_seq ?_
    refine vwp_seq ?_
    obtain ⟨o1, ho1, hF⟩ := bnd hF
    refine vwp_monoW (Q' := (fun o1 => OnlyE .normal (fun E' lw lc => Weak E' lw lc [(0, .ptr q0 w0 0 0), (1, .int .i64 p1), (19, .bool o1)] (low0.set q0 ⟨64, 2, [.agg [.vs 1 (List.map (PV.int .u8) p0.l), .int .i64 p0.at_]], w0⟩) [])) o1) ?_ ?_
    · replace hF := ho1
      rcases Bool.eq_false_or_eq_true (decide (p1 < 1)) with c2 | c2
      · have hF := bifT c2 hF
        refine vwp_drawn [[], [0], [0, 1], [0, 1, 2], [0, 1, 2, 3], [0, 1, 2, 3, 4], [0, 1, 2, 3, 4, 5], [0, 1, 2], [0, 1, 2, 7], [0, 1, 2, 7, 8], [0, 1, 2, 7, 8, 9], [0, 1, 2, 7, 8, 9, 10], [0, 1, 2, 3, 4, 5, 6, 7, 8, 9, 10, 11], [0, 1, 2, 3, 4, 5, 6, 7, 8, 9, 10, 11, 12]] [false, false, false, false, false, false, false, false, false, false, false, false, false, false] [((low0.set q0 ⟨64, 2, [.agg [.vs 1 (List.map (PV.int .u8) p0.l), .int .i64 p0.at_]], w0⟩), [])] mixed (by kernel_rfl) rfl (lenAll (all1 len_set2 all0)) rfl ((low0.set q0 ⟨64, 2, [.agg [.vs 1 (List.map (PV.int .u8) p0.l), .int .i64 p0.at_]], w0⟩), []) rfl rfl ?_
        refine dops_rdW [((low0.set q0 ⟨64, 2, [.agg [.vs 1 (List.map (PV.int .u8) p0.l), .int .i64 p0.at_]], w0⟩), [])] rfl rfl (all1 (VRd.ntl (rd_mvI rfl)) all0) ?_
        refine dops_rdW [((low0.set q0 ⟨64, 2, [.agg [.vs 1 (List.map (PV.int .u8) p0.l), .int .i64 p0.at_]], w0⟩), [])] rfl rfl (all1 (VRd.ntl (rd_lss rfl rfl)) all0) ?_
        refine dops_rdW [((low0.set q0 ⟨64, 2, [.agg [.vs 1 (List.map (PV.int .u8) p0.l), .int .i64 p0.at_]], w0⟩), [])] rfl rfl (all1 (VRd.ntl (rd_mvB rfl)) all0) ?_
        refine dops_skip rfl rfl rfl (neT c2) ?_
        refine dops_skip rfl rfl rfl (neT c2) ?_
        refine dops_skip rfl rfl rfl (neT c2) ?_
        refine dops_skip rfl rfl rfl (neT c2) ?_
        refine dops_skip rfl rfl rfl (neT c2) ?_
        refine dops_skip rfl rfl rfl (neT c2) ?_
        refine dops_skip rfl rfl rfl (neT c2) ?_
        refine dops_skip rfl rfl rfl (neT c2) ?_
        refine dops_skip rfl rfl rfl (neT c2) ?_
        refine dops_skip rfl rfl rfl (neT c2) ?_
        refine dops_rdW [((low0.set q0 ⟨64, 2, [.agg [.vs 1 (List.map (PV.int .u8) p0.l), .int .i64 p0.at_]], w0⟩), [])] rfl rfl (all1 (VRd.ntl (rd_pickT (congrArg PV.bool c2) rfl)) all0) ?_
        refine dops_nil ?_
        obtain rfl := Option.some.inj hF
        refine onlyE ?_
        exact weak_sub ⟨rfl, rfl, rfl, trivial⟩
      · have hF := bifF c2 hF
        refine vwp_drawn [[], [0], [0, 1], [0, 1, 2], [0, 1, 2, 3], [0, 1, 2, 3, 4], [0, 1, 2, 3, 4, 5], [0, 1, 2], [0, 1, 2, 7], [0, 1, 2, 7, 8], [0, 1, 2, 7, 8, 9], [0, 1, 2, 7, 8, 9, 10], [0, 1, 2, 3, 4, 5, 6, 7, 8, 9, 10, 11], [0, 1, 2, 3, 4, 5, 6, 7, 8, 9, 10, 11, 12]] [false, false, false, false, false, false, false, false, false, false, false, false, false, false] [((low0.set q0 ⟨64, 2, [.agg [.vs 1 (List.map (PV.int .u8) p0.l), .int .i64 p0.at_]], w0⟩), [])] mixed (by kernel_rfl) rfl (lenAll (all1 len_set2 all0)) rfl ((low0.set q0 ⟨64, 2, [.agg [.vs 1 (List.map (PV.int .u8) p0.l), .int .i64 p0.at_]], w0⟩), []) rfl rfl ?_
        refine dops_rdW [((low0.set q0 ⟨64, 2, [.agg [.vs 1 (List.map (PV.int .u8) p0.l), .int .i64 p0.at_]], w0⟩), [])] rfl rfl (all1 (VRd.ntl (rd_mvI rfl)) all0) ?_
        refine dops_rdW [((low0.set q0 ⟨64, 2, [.agg [.vs 1 (List.map (PV.int .u8) p0.l), .int .i64 p0.at_]], w0⟩), [])] rfl rfl (all1 (VRd.ntl (rd_lss rfl rfl)) all0) ?_
        refine dops_rdW [((low0.set q0 ⟨64, 2, [.agg [.vs 1 (List.map (PV.int .u8) p0.l), .int .i64 p0.at_]], w0⟩), [])] rfl rfl (all1 (VRd.ntl (rd_mvB rfl)) all0) ?_
        refine dops_takeW [((low0.set q0 ⟨64, 2, [.agg [.vs 1 (List.map (PV.int .u8) p0.l), .int .i64 p0.at_]], w0⟩), [])] rfl rfl rfl (congrArg PV.bool c2) (all1 (VRd.ntl (rd_mvP rfl)) all0) ?_
        refine dops_takeW [((low0.set q0 ⟨64, 2, [.agg [.vs 1 (List.map (PV.int .u8) p0.l), .int .i64 p0.at_]], w0⟩), [])] rfl rfl rfl (congrArg PV.bool c2) (all1 (VRd.ntl (rd_nilPtr rfl)) all0) ?_
        refine dops_takeW [((low0.set q0 ⟨64, 2, [.agg [.vs 1 (List.map (PV.int .u8) p0.l), .int .i64 p0.at_]], w0⟩), [])] rfl rfl rfl (congrArg PV.bool c2) (all1 (VRd.ntl (rd_fieldAddr rfl tf_64_1 ts_3 (by decide))) all0) ?_
        refine dops_takeW [((low0.set q0 ⟨64, 2, [.agg [.vs 1 (List.map (PV.int .u8) p0.l), .int .i64 p0.at_]], w0⟩), [])] rfl rfl rfl (congrArg PV.bool c2) (all1 (VRd.ntl (rd_load1 rfl (getO_set hq0) rfl ta_3 rfl)) all0) ?_
        refine dops_takeW [((low0.set q0 ⟨64, 2, [.agg [.vs 1 (List.map (PV.int .u8) p0.l), .int .i64 p0.at_]], w0⟩), [])] rfl rfl rfl (congrArg PV.bool c2) (all1 (VRd.ntl (rd_mvP rfl)) all0) ?_
        refine dops_takeW [((low0.set q0 ⟨64, 2, [.agg [.vs 1 (List.map (PV.int .u8) p0.l), .int .i64 p0.at_]], w0⟩), [])] rfl rfl rfl (congrArg PV.bool c2) (all1 (VRd.ntl (rd_nilPtr rfl)) all0) ?_
        refine dops_takeW [((low0.set q0 ⟨64, 2, [.agg [.vs 1 (List.map (PV.int .u8) p0.l), .int .i64 p0.at_]], w0⟩), [])] rfl rfl rfl (congrArg PV.bool c2) (all1 (VRd.ntl (rd_fieldAddr rfl tf_64_0 ts_22 (by decide))) all0) ?_
        refine dops_takeW [((low0.set q0 ⟨64, 2, [.agg [.vs 1 (List.map (PV.int .u8) p0.l), .int .i64 p0.at_]], w0⟩), [])] rfl rfl rfl (congrArg PV.bool c2) (all1 (VRd.ntl (rd_load1 rfl (getO_set hq0) rfl ta_22 rfl)) all0) ?_
        refine dops_takeW [((low0.set q0 ⟨64, 2, [.agg [.vs 1 (List.map (PV.int .u8) p0.l), .int .i64 p0.at_]], w0⟩), [])] rfl rfl rfl (congrArg PV.bool c2) (all1 (VRd.ntl (rd_to (rd_lenV rfl rfl te_22) (congrArg (fun n : Nat => PV.int .i64 (n : Int)) (List.length_map _)))) all0) ?_
        refine dops_takeW [((low0.set q0 ⟨64, 2, [.agg [.vs 1 (List.map (PV.int .u8) p0.l), .int .i64 p0.at_]], w0⟩), [])] rfl rfl rfl (congrArg PV.bool c2) (all1 (VRd.ntl (rd_geq rfl rfl)) all0) ?_
        refine dops_rdW [((low0.set q0 ⟨64, 2, [.agg [.vs 1 (List.map (PV.int .u8) p0.l), .int .i64 p0.at_]], w0⟩), [])] rfl rfl (all1 (VRd.ntl (rd_pickF (congrArg PV.bool c2) rfl)) all0) ?_
        refine dops_nil ?_
        obtain rfl := Option.some.inj hF
        refine onlyE ?_
        exact weak_sub ⟨rfl, rfl, rfl, trivial⟩
    · rintro _ _ _ _ ⟨rfl, hw⟩
      refine ⟨_, _, _, hw, ?_⟩
      refine vwp_cond rfl (fun c3 => ?_) (fun c3 => ?_)
      · have hF := bifT c3 hF
        refine vwp_seq ?_
        refine vwp_region ?_
        refine vops_rd (rd_asI rfl) rfl ?_
        refine vops_nil ?_
        refine vwp_ret ?_
        obtain rfl := Option.some.inj hF
        refine fnR ?_
        exact weak_sub ⟨rfl, trivial⟩
      · have hF := bifF c3 hF
        refine vwp_skip ?_
        refine vwp_seq ?_
        refine vwp_region ?_
        refine vops_rd (rd_mvP rfl) rfl ?_
        refine vops_rd (rd_nilPtr rfl) rfl ?_
        refine vops_rd (rd_fieldAddr rfl tf_64_1 ts_3 (by decide)) rfl ?_
        refine vops_rd (rd_load1 rfl (getO_set hq0) rfl ta_3 rfl) rfl ?_
        refine vops_rd (rd_add rfl rfl rfl) rfl ?_
        refine vops_rd (rd_nilPtr rfl) rfl ?_
        refine vops_rd (rd_fieldAddr rfl tf_64_1 ts_3 (by decide)) rfl ?_
        refine vops_efE (vef_store (p := .int .i64 (IntKind.i64.wrap (p0.at_ + 1))) (e' := .agg [.vs 1 (List.map (PV.int .u8) p0.l), .int .i64 (IntKind.i64.wrap (p0.at_ + 1))]) rfl (getO_set hq0) rfl rfl ts_3 rfl (nt_ne rfl) rfl (Nat.le_of_ble_eq_true rfl) rfl (setO_set hq0 (ltObj_es ⟨(lt_agg ⟨.vs _ _, .int _ _, trivial⟩), trivial⟩))) rfl ?_
        refine vops_nil ?_
        refine vwp_seq ?_
        obtain ⟨x4, h5, hF⟩ := bnd hF
        refine vwp_drawn [[], [0], [0, 1], [0, 1, 2], [], [4], [4, 5], [4, 5, 6], [4, 5, 6, 7], [0, 1, 2, 3, 4, 5, 6, 7, 8], [0, 1, 2, 3, 4, 5, 6, 7, 8, 9], [0, 1, 2, 3, 4, 5, 6, 7, 8, 9, 10], [0, 1, 2, 3, 4, 5, 6, 7, 8, 9, 10, 11]] [false, false, false, false, false, false, false, false, false, false, false, false, false] [((low0.set q0 ⟨64, 2, [.agg [.vs 1 (List.map (PV.int .u8) p0.l), .int .i64 (IntKind.i64.wrap (p0.at_ + 1))]], w0⟩), [])] mixed (by kernel_rfl) rfl (lenAll (all1 len_set2 all0)) rfl ((low0.set q0 ⟨64, 2, [.agg [.vs 1 (List.map (PV.int .u8) p0.l), .int .i64 (IntKind.i64.wrap (p0.at_ + 1))]], w0⟩), []) rfl rfl ?_
        refine dops_rdW [((low0.set q0 ⟨64, 2, [.agg [.vs 1 (List.map (PV.int .u8) p0.l), .int .i64 (IntKind.i64.wrap (p0.at_ + 1))]], w0⟩), [])] rfl rfl (all1 (VRd.ntl (rd_mvP rfl)) all0) ?_
        refine dops_rdW [((low0.set q0 ⟨64, 2, [.agg [.vs 1 (List.map (PV.int .u8) p0.l), .int .i64 (IntKind.i64.wrap (p0.at_ + 1))]], w0⟩), [])] rfl rfl (all1 (VRd.ntl (rd_nilPtr rfl)) all0) ?_
        refine dops_rdW [((low0.set q0 ⟨64, 2, [.agg [.vs 1 (List.map (PV.int .u8) p0.l), .int .i64 (IntKind.i64.wrap (p0.at_ + 1))]], w0⟩), [])] rfl rfl (all1 (VRd.ntl (rd_fieldAddr rfl tf_64_0 ts_22 (by decide))) all0) ?_
        refine dops_rdW [((low0.set q0 ⟨64, 2, [.agg [.vs 1 (List.map (PV.int .u8) p0.l), .int .i64 (IntKind.i64.wrap (p0.at_ + 1))]], w0⟩), [])] rfl rfl (all1 (VRd.ntl (rd_load1 rfl (getO_set hq0) rfl ta_22 rfl)) all0) ?_
        refine dops_rdW [((low0.set q0 ⟨64, 2, [.agg [.vs 1 (List.map (PV.int .u8) p0.l), .int .i64 (IntKind.i64.wrap (p0.at_ + 1))]], w0⟩), [])] rfl rfl (all1 (VRd.ntl (rd_mvP rfl)) all0) ?_
        refine dops_rdW [((low0.set q0 ⟨64, 2, [.agg [.vs 1 (List.map (PV.int .u8) p0.l), .int .i64 (IntKind.i64.wrap (p0.at_ + 1))]], w0⟩), [])] rfl rfl (all1 (VRd.ntl (rd_nilPtr rfl)) all0) ?_
        refine dops_rdW [((low0.set q0 ⟨64, 2, [.agg [.vs 1 (List.map (PV.int .u8) p0.l), .int .i64 (IntKind.i64.wrap (p0.at_ + 1))]], w0⟩), [])] rfl rfl (all1 (VRd.ntl (rd_fieldAddr rfl tf_64_1 ts_3 (by decide))) all0) ?_
        refine dops_rdW [((low0.set q0 ⟨64, 2, [.agg [.vs 1 (List.map (PV.int .u8) p0.l), .int .i64 (IntKind.i64.wrap (p0.at_ + 1))]], w0⟩), [])] rfl rfl (all1 (VRd.ntl (rd_load1 rfl (getO_set hq0) rfl ta_3 rfl)) all0) ?_
        refine dops_rdW [((low0.set q0 ⟨64, 2, [.agg [.vs 1 (List.map (PV.int .u8) p0.l), .int .i64 (IntKind.i64.wrap (p0.at_ + 1))]], w0⟩), [])] rfl rfl (all1 (VRd.ntl (rd_sub rfl rfl rfl)) all0) ?_
        refine dops_rdW [((low0.set q0 ⟨64, 2, [.agg [.vs 1 (List.map (PV.int .u8) p0.l), .int .i64 (IntKind.i64.wrap (p0.at_ + 1))]], w0⟩), [])] rfl rfl (all1 (VRd.ntl (rd_to (rd_ixV rfl rfl h5 te_22 ts_5) (v' := .vptr [.int .u8 x4] 0) rfl)) all0) ?_
        refine dops_rdW [((low0.set q0 ⟨64, 2, [.agg [.vs 1 (List.map (PV.int .u8) p0.l), .int .i64 (IntKind.i64.wrap (p0.at_ + 1))]], w0⟩), [])] rfl rfl (all1 (VRd.ntl (rd_loadV1 rfl ta_5 rfl)) all0) ?_
        refine dops_rdW [((low0.set q0 ⟨64, 2, [.agg [.vs 1 (List.map (PV.int .u8) p0.l), .int .i64 (IntKind.i64.wrap (p0.at_ + 1))]], w0⟩), [])] rfl rfl (all1 (VRd.ntl (rd_conv rfl us_5 ti_3 rfl)) all0) ?_
        refine dops_rdW [((low0.set q0 ⟨64, 2, [.agg [.vs 1 (List.map (PV.int .u8) p0.l), .int .i64 (IntKind.i64.wrap (p0.at_ + 1))]], w0⟩), [])] rfl rfl (all1 (VRd.ntl (rd_asI rfl)) all0) ?_
        refine dops_nil ?_
        refine vwp_seq ?_
        refine vwp_seq ?_
        obtain ⟨o6, ho6, hF⟩ := bnd hF
        refine vwp_monoW (Q' := (fun o6 => OnlyE .normal (fun E' lw lc => Weak E' lw lc [(0, .ptr q0 w0 0 0), (1, .int .i64 p1), (5, .int .i64 (IntKind.i64.wrap x4)), (52, .bool o6)] (low0.set q0 ⟨64, 2, [.agg [.vs 1 (List.map (PV.int .u8) p0.l), .int .i64 (IntKind.i64.wrap (p0.at_ + 1))]], w0⟩) [])) o6) ?_ ?_
        · replace hF := ho6
          rcases Bool.eq_false_or_eq_true (decide (256 < p1)) with c7 | c7
          · have hF := bifT c7 hF
            refine vwp_drawn [[], [0], [0, 1], [0, 1, 2], [0, 1, 2, 3], [0, 1, 2, 3, 4], [0, 1, 2, 3, 4, 5], [0, 1, 2], [0, 1, 2, 7], [0, 1, 2, 7, 8], [0, 1, 2, 7, 8, 9], [0, 1, 2, 7, 8, 9, 10], [0, 1, 2, 3, 4, 5, 6, 7, 8, 9, 10, 11], [0, 1, 2, 3, 4, 5, 6, 7, 8, 9, 10, 11, 12]] [false, false, false, false, false, false, false, false, false, false, false, false, false, false] [((low0.set q0 ⟨64, 2, [.agg [.vs 1 (List.map (PV.int .u8) p0.l), .int .i64 (IntKind.i64.wrap (p0.at_ + 1))]], w0⟩), [])] mixed (by kernel_rfl) rfl (lenAll (all1 len_set2 all0)) rfl ((low0.set q0 ⟨64, 2, [.agg [.vs 1 (List.map (PV.int .u8) p0.l), .int .i64 (IntKind.i64.wrap (p0.at_ + 1))]], w0⟩), []) rfl rfl ?_
            refine dops_rdW [((low0.set q0 ⟨64, 2, [.agg [.vs 1 (List.map (PV.int .u8) p0.l), .int .i64 (IntKind.i64.wrap (p0.at_ + 1))]], w0⟩), [])] rfl rfl (all1 (VRd.ntl (rd_mvI rfl)) all0) ?_
            refine dops_rdW [((low0.set q0 ⟨64, 2, [.agg [.vs 1 (List.map (PV.int .u8) p0.l), .int .i64 (IntKind.i64.wrap (p0.at_ + 1))]], w0⟩), [])] rfl rfl (all1 (VRd.ntl (rd_gtr rfl rfl)) all0) ?_
            refine dops_rdW [((low0.set q0 ⟨64, 2, [.agg [.vs 1 (List.map (PV.int .u8) p0.l), .int .i64 (IntKind.i64.wrap (p0.at_ + 1))]], w0⟩), [])] rfl rfl (all1 (VRd.ntl (rd_mvB rfl)) all0) ?_
            refine dops_takeW [((low0.set q0 ⟨64, 2, [.agg [.vs 1 (List.map (PV.int .u8) p0.l), .int .i64 (IntKind.i64.wrap (p0.at_ + 1))]], w0⟩), [])] rfl rfl rfl (congrArg PV.bool c7) (all1 (VRd.ntl (rd_mvP rfl)) all0) ?_
            refine dops_takeW [((low0.set q0 ⟨64, 2, [.agg [.vs 1 (List.map (PV.int .u8) p0.l), .int .i64 (IntKind.i64.wrap (p0.at_ + 1))]], w0⟩), [])] rfl rfl rfl (congrArg PV.bool c7) (all1 (VRd.ntl (rd_nilPtr rfl)) all0) ?_
            refine dops_takeW [((low0.set q0 ⟨64, 2, [.agg [.vs 1 (List.map (PV.int .u8) p0.l), .int .i64 (IntKind.i64.wrap (p0.at_ + 1))]], w0⟩), [])] rfl rfl rfl (congrArg PV.bool c7) (all1 (VRd.ntl (rd_fieldAddr rfl tf_64_1 ts_3 (by decide))) all0) ?_
            refine dops_takeW [((low0.set q0 ⟨64, 2, [.agg [.vs 1 (List.map (PV.int .u8) p0.l), .int .i64 (IntKind.i64.wrap (p0.at_ + 1))]], w0⟩), [])] rfl rfl rfl (congrArg PV.bool c7) (all1 (VRd.ntl (rd_load1 rfl (getO_set hq0) rfl ta_3 rfl)) all0) ?_
            refine dops_takeW [((low0.set q0 ⟨64, 2, [.agg [.vs 1 (List.map (PV.int .u8) p0.l), .int .i64 (IntKind.i64.wrap (p0.at_ + 1))]], w0⟩), [])] rfl rfl rfl (congrArg PV.bool c7) (all1 (VRd.ntl (rd_mvP rfl)) all0) ?_
            refine dops_takeW [((low0.set q0 ⟨64, 2, [.agg [.vs 1 (List.map (PV.int .u8) p0.l), .int .i64 (IntKind.i64.wrap (p0.at_ + 1))]], w0⟩), [])] rfl rfl rfl (congrArg PV.bool c7) (all1 (VRd.ntl (rd_nilPtr rfl)) all0) ?_
            refine dops_takeW [((low0.set q0 ⟨64, 2, [.agg [.vs 1 (List.map (PV.int .u8) p0.l), .int .i64 (IntKind.i64.wrap (p0.at_ + 1))]], w0⟩), [])] rfl rfl rfl (congrArg PV.bool c7) (all1 (VRd.ntl (rd_fieldAddr rfl tf_64_0 ts_22 (by decide))) all0) ?_
            refine dops_takeW [((low0.set q0 ⟨64, 2, [.agg [.vs 1 (List.map (PV.int .u8) p0.l), .int .i64 (IntKind.i64.wrap (p0.at_ + 1))]], w0⟩), [])] rfl rfl rfl (congrArg PV.bool c7) (all1 (VRd.ntl (rd_load1 rfl (getO_set hq0) rfl ta_22 rfl)) all0) ?_
            refine dops_takeW [((low0.set q0 ⟨64, 2, [.agg [.vs 1 (List.map (PV.int .u8) p0.l), .int .i64 (IntKind.i64.wrap (p0.at_ + 1))]], w0⟩), [])] rfl rfl rfl (congrArg PV.bool c7) (all1 (VRd.ntl (rd_to (rd_lenV rfl rfl te_22) (congrArg (fun n : Nat => PV.int .i64 (n : Int)) (List.length_map _)))) all0) ?_
            refine dops_takeW [((low0.set q0 ⟨64, 2, [.agg [.vs 1 (List.map (PV.int .u8) p0.l), .int .i64 (IntKind.i64.wrap (p0.at_ + 1))]], w0⟩), [])] rfl rfl rfl (congrArg PV.bool c7) (all1 (VRd.ntl (rd_lss rfl rfl)) all0) ?_
            refine dops_rdW [((low0.set q0 ⟨64, 2, [.agg [.vs 1 (List.map (PV.int .u8) p0.l), .int .i64 (IntKind.i64.wrap (p0.at_ + 1))]], w0⟩), [])] rfl rfl (all1 (VRd.ntl (rd_pickT (congrArg PV.bool c7) rfl)) all0) ?_
            refine dops_nil ?_
            obtain rfl := Option.some.inj hF
            refine onlyE ?_
            exact weak_sub ⟨rfl, rfl, rfl, rfl, trivial⟩
          · have hF := bifF c7 hF
            refine vwp_drawn [[], [0], [0, 1], [0, 1, 2], [0, 1, 2, 3], [0, 1, 2, 3, 4], [0, 1, 2, 3, 4, 5], [0, 1, 2], [0, 1, 2, 7], [0, 1, 2, 7, 8], [0, 1, 2, 7, 8, 9], [0, 1, 2, 7, 8, 9, 10], [0, 1, 2, 3, 4, 5, 6, 7, 8, 9, 10, 11], [0, 1, 2, 3, 4, 5, 6, 7, 8, 9, 10, 11, 12]] [false, false, false, false, false, false, false, false, false, false, false, false, false, false] [((low0.set q0 ⟨64, 2, [.agg [.vs 1 (List.map (PV.int .u8) p0.l), .int .i64 (IntKind.i64.wrap (p0.at_ + 1))]], w0⟩), [])] mixed (by kernel_rfl) rfl (lenAll (all1 len_set2 all0)) rfl ((low0.set q0 ⟨64, 2, [.agg [.vs 1 (List.map (PV.int .u8) p0.l), .int .i64 (IntKind.i64.wrap (p0.at_ + 1))]], w0⟩), []) rfl rfl ?_
            refine dops_rdW [((low0.set q0 ⟨64, 2, [.agg [.vs 1 (List.map (PV.int .u8) p0.l), .int .i64 (IntKind.i64.wrap (p0.at_ + 1))]], w0⟩), [])] rfl rfl (all1 (VRd.ntl (rd_mvI rfl)) all0) ?_
            refine dops_rdW [((low0.set q0 ⟨64, 2, [.agg [.vs 1 (List.map (PV.int .u8) p0.l), .int .i64 (IntKind.i64.wrap (p0.at_ + 1))]], w0⟩), [])] rfl rfl (all1 (VRd.ntl (rd_gtr rfl rfl)) all0) ?_
            refine dops_rdW [((low0.set q0 ⟨64, 2, [.agg [.vs 1 (List.map (PV.int .u8) p0.l), .int .i64 (IntKind.i64.wrap (p0.at_ + 1))]], w0⟩), [])] rfl rfl (all1 (VRd.ntl (rd_mvB rfl)) all0) ?_
            refine dops_skip rfl rfl rfl (neF c7) ?_
            refine dops_skip rfl rfl rfl (neF c7) ?_
            refine dops_skip rfl rfl rfl (neF c7) ?_
            refine dops_skip rfl rfl rfl (neF c7) ?_
            refine dops_skip rfl rfl rfl (neF c7) ?_
            refine dops_skip rfl rfl rfl (neF c7) ?_
            refine dops_skip rfl rfl rfl (neF c7) ?_
            refine dops_skip rfl rfl rfl (neF c7) ?_
            refine dops_skip rfl rfl rfl (neF c7) ?_
            refine dops_skip rfl rfl rfl (neF c7) ?_
            refine dops_rdW [((low0.set q0 ⟨64, 2, [.agg [.vs 1 (List.map (PV.int .u8) p0.l), .int .i64 (IntKind.i64.wrap (p0.at_ + 1))]], w0⟩), [])] rfl rfl (all1 (VRd.ntl (rd_pickF (congrArg PV.bool c7) rfl)) all0) ?_
            refine dops_nil ?_
            obtain rfl := Option.some.inj hF
            refine onlyE ?_
            exact weak_sub ⟨rfl, rfl, rfl, rfl, trivial⟩
        · rintro _ _ _ _ ⟨rfl, hw⟩
          refine ⟨_, _, _, hw, ?_⟩
          obtain ⟨o8, ho8, hF⟩ := bnd hF
          refine vwp_monoW (Q' := (fun o8 => OnlyE .normal (fun E' lw lc => Weak E' lw lc [(1, .int .i64 p1), (5, .int .i64 o8.1)] (low0.set q0 ⟨64, 2, [.agg [.vs 1 (List.map (PV.int .u8) p0.l), .int .i64 o8.2]], w0⟩) [])) o8) ?_ ?_
          · replace hF := ho8
            refine vwp_cond rfl (fun c9 => ?_) (fun c9 => ?_)
            · have hF := bifT c9 hF
              refine vwp_seq ?_
              obtain ⟨x10, h11, hF⟩ := bnd hF
              refine vwp_drawn [[], [0], [], [2], [2, 3], [2, 3, 4], [], [6], [6, 7], [6, 7, 8], [2, 3, 4, 5, 6, 7, 8, 9], [2, 3, 4, 5, 6, 7, 8, 9, 10], [2, 3, 4, 5, 6, 7, 8, 9, 10, 11], [0, 1, 2, 3, 4, 5, 6, 7, 8, 9, 10, 11, 12], [0, 1, 2, 3, 4, 5, 6, 7, 8, 9, 10, 11, 12, 13]] [false, false, false, false, false, false, false, false, false, false, false, false, false, false, false] [((low0.set q0 ⟨64, 2, [.agg [.vs 1 (List.map (PV.int .u8) p0.l), .int .i64 (IntKind.i64.wrap (p0.at_ + 1))]], w0⟩), [])] mixed (by kernel_rfl) rfl (lenAll (all1 len_set2 all0)) rfl ((low0.set q0 ⟨64, 2, [.agg [.vs 1 (List.map (PV.int .u8) p0.l), .int .i64 (IntKind.i64.wrap (p0.at_ + 1))]], w0⟩), []) rfl rfl ?_
              refine dops_rdW [((low0.set q0 ⟨64, 2, [.agg [.vs 1 (List.map (PV.int .u8) p0.l), .int .i64 (IntKind.i64.wrap (p0.at_ + 1))]], w0⟩), [])] rfl rfl (all1 (VRd.ntl (rd_mvI rfl)) all0) ?_
              refine dops_rdW [((low0.set q0 ⟨64, 2, [.agg [.vs 1 (List.map (PV.int .u8) p0.l), .int .i64 (IntKind.i64.wrap (p0.at_ + 1))]], w0⟩), [])] rfl rfl (all1 (VRd.ntl (rd_mul rfl rfl rfl)) all0) ?_
              refine dops_rdW [((low0.set q0 ⟨64, 2, [.agg [.vs 1 (List.map (PV.int .u8) p0.l), .int .i64 (IntKind.i64.wrap (p0.at_ + 1))]], w0⟩), [])] rfl rfl (all1 (VRd.ntl (rd_mvP rfl)) all0) ?_
              refine dops_rdW [((low0.set q0 ⟨64, 2, [.agg [.vs 1 (List.map (PV.int .u8) p0.l), .int .i64 (IntKind.i64.wrap (p0.at_ + 1))]], w0⟩), [])] rfl rfl (all1 (VRd.ntl (rd_nilPtr rfl)) all0) ?_
              refine dops_rdW [((low0.set q0 ⟨64, 2, [.agg [.vs 1 (List.map (PV.int .u8) p0.l), .int .i64 (IntKind.i64.wrap (p0.at_ + 1))]], w0⟩), [])] rfl rfl (all1 (VRd.ntl (rd_fieldAddr rfl tf_64_0 ts_22 (by decide))) all0) ?_
              refine dops_rdW [((low0.set q0 ⟨64, 2, [.agg [.vs 1 (List.map (PV.int .u8) p0.l), .int .i64 (IntKind.i64.wrap (p0.at_ + 1))]], w0⟩), [])] rfl rfl (all1 (VRd.ntl (rd_load1 rfl (getO_set hq0) rfl ta_22 rfl)) all0) ?_
              refine dops_rdW [((low0.set q0 ⟨64, 2, [.agg [.vs 1 (List.map (PV.int .u8) p0.l), .int .i64 (IntKind.i64.wrap (p0.at_ + 1))]], w0⟩), [])] rfl rfl (all1 (VRd.ntl (rd_mvP rfl)) all0) ?_
              refine dops_rdW [((low0.set q0 ⟨64, 2, [.agg [.vs 1 (List.map (PV.int .u8) p0.l), .int .i64 (IntKind.i64.wrap (p0.at_ + 1))]], w0⟩), [])] rfl rfl (all1 (VRd.ntl (rd_nilPtr rfl)) all0) ?_
              refine dops_rdW [((low0.set q0 ⟨64, 2, [.agg [.vs 1 (List.map (PV.int .u8) p0.l), .int .i64 (IntKind.i64.wrap (p0.at_ + 1))]], w0⟩), [])] rfl rfl (all1 (VRd.ntl (rd_fieldAddr rfl tf_64_1 ts_3 (by decide))) all0) ?_
              refine dops_rdW [((low0.set q0 ⟨64, 2, [.agg [.vs 1 (List.map (PV.int .u8) p0.l), .int .i64 (IntKind.i64.wrap (p0.at_ + 1))]], w0⟩), [])] rfl rfl (all1 (VRd.ntl (rd_load1 rfl (getO_set hq0) rfl ta_3 rfl)) all0) ?_
              refine dops_rdW [((low0.set q0 ⟨64, 2, [.agg [.vs 1 (List.map (PV.int .u8) p0.l), .int .i64 (IntKind.i64.wrap (p0.at_ + 1))]], w0⟩), [])] rfl rfl (all1 (VRd.ntl (rd_to (rd_ixV rfl rfl h11 te_22 ts_5) (v' := .vptr [.int .u8 x10] 0) rfl)) all0) ?_
              refine dops_rdW [((low0.set q0 ⟨64, 2, [.agg [.vs 1 (List.map (PV.int .u8) p0.l), .int .i64 (IntKind.i64.wrap (p0.at_ + 1))]], w0⟩), [])] rfl rfl (all1 (VRd.ntl (rd_loadV1 rfl ta_5 rfl)) all0) ?_
              refine dops_rdW [((low0.set q0 ⟨64, 2, [.agg [.vs 1 (List.map (PV.int .u8) p0.l), .int .i64 (IntKind.i64.wrap (p0.at_ + 1))]], w0⟩), [])] rfl rfl (all1 (VRd.ntl (rd_conv rfl us_5 ti_3 rfl)) all0) ?_
              refine dops_rdW [((low0.set q0 ⟨64, 2, [.agg [.vs 1 (List.map (PV.int .u8) p0.l), .int .i64 (IntKind.i64.wrap (p0.at_ + 1))]], w0⟩), [])] rfl rfl (all1 (VRd.ntl (rd_add rfl rfl rfl)) all0) ?_
              refine dops_rdW [((low0.set q0 ⟨64, 2, [.agg [.vs 1 (List.map (PV.int .u8) p0.l), .int .i64 (IntKind.i64.wrap (p0.at_ + 1))]], w0⟩), [])] rfl rfl (all1 (VRd.ntl (rd_asI rfl)) all0) ?_
              refine dops_nil ?_
              refine vwp_region ?_
              refine vops_rd (rd_mvP rfl) rfl ?_
              refine vops_rd (rd_nilPtr rfl) rfl ?_
              refine vops_rd (rd_fieldAddr rfl tf_64_1 ts_3 (by decide)) rfl ?_
              refine vops_rd (rd_load1 rfl (getO_set hq0) rfl ta_3 rfl) rfl ?_
              refine vops_rd (rd_add rfl rfl rfl) rfl ?_
              refine vops_rd (rd_nilPtr rfl) rfl ?_
              refine vops_rd (rd_fieldAddr rfl tf_64_1 ts_3 (by decide)) rfl ?_
              refine vops_efE (vef_store (p := .int .i64 (IntKind.i64.wrap ((IntKind.i64.wrap (p0.at_ + 1)) + 1))) (e' := .agg [.vs 1 (List.map (PV.int .u8) p0.l), .int .i64 (IntKind.i64.wrap ((IntKind.i64.wrap (p0.at_ + 1)) + 1))]) rfl (getO_set hq0) rfl rfl ts_3 rfl (nt_ne rfl) rfl (Nat.le_of_ble_eq_true rfl) rfl (setO_set hq0 (ltObj_es ⟨(lt_agg ⟨.vs _ _, .int _ _, trivial⟩), trivial⟩))) rfl ?_
              refine vops_nil ?_
              obtain rfl := Option.some.inj hF
              refine onlyE ?_
              exact weak_sub ⟨rfl, rfl, trivial⟩
            · have hF := bifF c9 hF
              refine vwp_skip ?_
              obtain rfl := Option.some.inj hF
              refine onlyE ?_
              exact weak_sub ⟨rfl, rfl, trivial⟩
          · rintro _ _ _ _ ⟨rfl, hw⟩
            refine ⟨_, _, _, hw, ?_⟩
            refine vwp_seq ?_
            refine vwp_region ?_
            obtain ⟨x12, h13, hF⟩ := bnd hF
            refine vops_rd (rd_mvI rfl) rfl ?_
            refine vops_rd (rd_mvI rfl) rfl ?_
            refine vops_rd (rd_rem rfl rfl (remI_some h13).1 (remI_some h13).2) rfl ?_
            refine vops_rd (rd_asI rfl) rfl ?_
            refine vops_nil ?_
            refine vwp_ret ?_
            obtain rfl := Option.some.inj hF
            refine fnR ?_
            exact weak_sub ⟨rfl, trivial⟩
  · rintro _ _ _ _ ⟨he, hw⟩
    refine ⟨_, _, _, hw, ?_⟩
    exact bodyQ_pure he [.int .i64 r.2] ⟨rfl, trivial⟩ (.int _ _) ⟨rfl, rfl⟩

theorem F_draw_Codes_Next_ok {p0 : T_draw_Codes} {p1 : Int} {r : T_draw_Codes × Int} (hF : F_draw_Codes_Next p0 p1 = some r) {low : List AObj} {q0 w0 : Nat} (hq0 : low[q0]? = some ⟨64, 2, [.agg [.vs 1 (List.map (PV.int .u8) p0.l), .int .i64 p0.at_]], w0⟩) :
    VCalls Try.prog 20 [.ptr q0 w0 0 0, .int .i64 p1] low fun x low' => x = .int .i64 r.2 ∧ low' = low.set q0 ⟨64, 2, [.agg [.vs 1 (List.map (PV.int .u8) r.1.l), .int .i64 r.1.at_]], w0⟩ := by
  obtain ⟨h1, h2⟩ := low_set hq0
  have h := F_draw_Codes_Next_ok0 hF (w0 := w0) h1
  rw [← h2] at h
  exact h

theorem F_draw_Codes_Range_ok0 {p0 : T_draw_Codes} {p1 : Int} {p2 : Int} {r : T_draw_Codes × Int} (hF : F_draw_Codes_Range p0 p1 p2 = some r) {low0 : List AObj} {q0 w0 : Nat} (hq0 : q0 < low0.length) :
    VCalls Try.prog 19 [.ptr q0 w0 0 0, .int .i64 p1, .int .i64 p2] (low0.set q0 ⟨64, 2, [.agg [.vs 1 (List.map (PV.int .u8) p0.l), .int .i64 p0.at_]], w0⟩) fun x low' => x = .int .i64 r.2 ∧ low' = low0.set q0 ⟨64, 2, [.agg [.vs 1 (List.map (PV.int .u8) r.1.l), .int .i64 r.1.at_]], w0⟩ := by
  refine vcalls_of_body (nt := 15) (rs := [.tmp 6]) Try.func19 rfl rfl (Nat.le_of_ble_eq_true rfl) rfl ?_
  refine vwp_monoW (Q' := FnE (fun E' lw lc => Weak E' lw lc [(6, .int .i64 r.2)] (low0.set q0 ⟨64, 2, [.agg [.vs 1 (List.map (PV.int .u8) r.1.l), .int .i64 r.1.at_]], w0⟩) [])) ?_ ?_
  · unfold F_draw_Codes_Range at hF
    refine vwp_seq ?_
    refine vwp_region ?_
    refine vops_rd (rd_asI rfl) rfl ?_
    refine vops_nil ?_
    refine vwp_seq ?_
    refine vwp_region ?_
    obtain ⟨x1, h2, hF⟩ := bnd hF
    refine vops_rd (rd_mvI rfl) rfl ?_
    refine vops_rd (rd_mvP rfl) rfl ?_
    refine vops_rd (rd_mvI rfl) rfl ?_
    refine vops_rd (rd_mvI rfl) rfl ?_
    refine vops_rd (rd_sub rfl rfl rfl) rfl ?_
    refine vops_rd (rd_add rfl rfl rfl) rfl ?_
    refine vops_efE (vef_callL hq0 (o' := ⟨64, 2, [.agg [.vs 1 (List.map (PV.int .u8) x1.1.l), .int .i64 x1.1.at_]], w0⟩) (ltObj_es ⟨(lt_agg ⟨.vs _ _, .int _ _, trivial⟩), trivial⟩) rfl Try.call20 (F_draw_Codes_Next_ok h2 (get_low hq0))) rfl ?_
    refine vops_rd (rd_add rfl rfl rfl) rfl ?_
    refine vops_rd (rd_asI rfl) rfl ?_
    refine vops_nil ?_
    refine vwp_ret ?_
    obtain rfl := Option.some.inj hF
    refine fnR ?_
    exact weak_sub ⟨rfl, trivial⟩
  · rintro _ _ _ _ ⟨he, hw⟩
    refine ⟨_, _, _, hw, ?_⟩
    exact bodyQ_pure he [.int .i64 r.2] ⟨rfl, trivial⟩ (.int _ _) ⟨rfl, rfl⟩

theorem F_draw_Codes_Range_ok {p0 : T_draw_Codes} {p1 : Int} {p2 : Int} {r : T_draw_Codes × Int} (hF : F_draw_Codes_Range p0 p1 p2 = some r) {low : List AObj} {q0 w0 : Nat} (hq0 : low[q0]? = some ⟨64, 2, [.agg [.vs 1 (List.map (PV.int .u8) p0.l), .int .i64 p0.at_]], w0⟩) :
    VCalls Try.prog 19 [.ptr q0 w0 0 0, .int .i64 p1, .int .i64 p2] low fun x low' => x = .int .i64 r.2 ∧ low' = low.set q0 ⟨64, 2, [.agg [.vs 1 (List.map (PV.int .u8) r.1.l), .int .i64 r.1.at_]], w0⟩ := by
  obtain ⟨h1, h2⟩ := low_set hq0
  have h := F_draw_Codes_Range_ok0 hF (w0 := w0) h1
  rw [← h2] at h
  exact h

theorem F_ref05_Stately_ok {p0 : Int} {r : Bool} (hF : F_ref05_Stately p0 = some r) (low : List AObj) :
    VCalls Try.prog 32 [.int .i64 p0] low fun x low' => x = .bool r ∧ low' = low := by
  refine vcalls_of_body (nt := 5) (rs := [.tmp 2]) Try.func32 rfl rfl (Nat.le_of_ble_eq_true rfl) rfl ?_
  refine vwp_monoW (Q' := FnE (fun E' lw lc => Weak E' lw lc [(2, .bool r)] low [])) ?_ ?_
  · unfold F_ref05_Stately at hF
    refine vwp_seq ?_
    refine vwp_region ?_
    refine vops_rd (rd_asB rfl) rfl ?_
    refine vops_nil ?_
    refine vwp_seq ?_
    refine vwp_region ?_
    refine vops_rd (rd_mvI rfl) rfl ?_
    refine vops_rd (rd_geq rfl rfl) rfl ?_
    refine vops_rd (rd_asB rfl) rfl ?_
    refine vops_nil ?_
    refine vwp_ret ?_
    obtain rfl := Option.some.inj hF
    refine fnR ?_
    exact weak_sub ⟨rfl, trivial⟩
  · rintro _ _ _ _ ⟨he, hw⟩
    refine ⟨_, _, _, hw, ?_⟩
    exact bodyQ_pure he [.bool r] ⟨rfl, trivial⟩ (.bool _) ⟨rfl, rfl⟩

theorem F_draw_Codes_Sensor_ok0 {p0 : T_draw_Codes} {p1 : Int} {p2 : Int} {p3 : Int} {r : T_draw_Codes × T_Sensor} (hF : F_draw_Codes_Sensor p0 p1 p2 p3 = some r) {low0 : List AObj} {q0 w0 : Nat} (hq0 : q0 < low0.length) :
    VCalls Try.prog 18 [.ptr q0 w0 0 0, .int .i64 p1, .int .i64 p2, .int .i64 p3] (low0.set q0 ⟨64, 2, [.agg [.vs 1 (List.map (PV.int .u8) p0.l), .int .i64 p0.at_]], w0⟩) fun x low' => x = .agg [.int .i64 r.2.Address, .int .i64 r.2.Kind, .int .i64 r.2.Target, .int .i64 r.2.Offset, .int .i64 r.2.Scale, .int .i64 r.2.Error, .int .i64 r.2.Drift, .int .i64 r.2.Life] ∧ low' = low0.set q0 ⟨64, 2, [.agg [.vs 1 (List.map (PV.int .u8) r.1.l), .int .i64 r.1.at_]], w0⟩ := by
  refine vcalls_of_body (nt := 32) (rs := [.cell 8 24]) Try.func18 rfl rfl (Nat.le_of_ble_eq_true rfl) rfl ?_
  refine vwp_monoW (Q' := FnE (fun E' lw lc => Weak E' lw lc [(8, .ptr (low0.length + 0) 0 0 0)] (low0.set q0 ⟨64, 2, [.agg [.vs 1 (List.map (PV.int .u8) r.1.l), .int .i64 r.1.at_]], w0⟩) [⟨24, 8, [.agg [.int .i64 r.2.Address, .int .i64 r.2.Kind, .int .i64 r.2.Target, .int .i64 r.2.Offset, .int .i64 r.2.Scale, .int .i64 r.2.Error, .int .i64 r.2.Drift, .int .i64 r.2.Life]], 0⟩])) ?_ ?_
  · unfold F_draw_Codes_Sensor at hF
    refine vwp_seq ?_
    refine vwp_region ?_
    refine vops_efE (vef_allocN List.length_set rfl tz_24 rfl rfl (Nat.succ_pos _) rfl) rfl ?_
    refine vops_nil ?_
    refine vwp_seq ?_
    refine vwp_region ?_
    obtain ⟨x1, h2, hF⟩ := bnd hF
    refine vops_rd (rd_mvI rfl) rfl ?_
    refine vops_rd (rd_mvI rfl) rfl ?_
    refine vops_rd (rd_mvI rfl) rfl ?_
    refine vops_rd (rd_mvP rfl) rfl ?_
    refine vops_efE (vef_callL hq0 (o' := ⟨64, 2, [.agg [.vs 1 (List.map (PV.int .u8) x1.1.l), .int .i64 x1.1.at_]], w0⟩) (ltObj_es ⟨(lt_agg ⟨.vs _ _, .int _ _, trivial⟩), trivial⟩) rfl Try.call19 (F_draw_Codes_Range_ok h2 (get_low hq0))) rfl ?_
    refine vops_rd (rd_build (vs := [(1, .int .i64 p1), (0, .int .i64 p2), (2, .int .i64 p3), (4, .int .i64 1000), (7, .int .i64 x1.2)]) (ds := [.int .i64 p2, .int .i64 p1, .int .i64 p3, .int .i64 0, .int .i64 1000, .int .i64 0, .int .i64 0, .int .i64 x1.2]) tz_24 rfl rfl tp_24 ⟨rfl, rfl, rfl, rfl, rfl, rfl, rfl, rfl, rfl, rfl, trivial⟩ (nt_all2 rfl) rfl) rfl ?_
    refine vops_efE (vef_allocN List.length_set rfl tz_24 rfl rfl (Nat.succ_pos _) rfl) rfl ?_
    refine vops_efE (vef_store (p := .agg [.int .i64 p2, .int .i64 p1, .int .i64 p3, .int .i64 0, .int .i64 1000, .int .i64 0, .int .i64 0, .int .i64 x1.2]) (e' := .agg [.int .i64 p2, .int .i64 p1, .int .i64 p3, .int .i64 0, .int .i64 1000, .int .i64 0, .int .i64 0, .int .i64 x1.2]) rfl (getO_N List.length_set rfl) rfl rfl ts_24 rfl (nt_ne rfl) rfl (Nat.le_of_ble_eq_true rfl) rfl (setO_N List.length_set rfl)) rfl ?_
    refine vops_nil ?_
    refine vwp_seq ?_
    refine vwp_seq ?_
    refine vwp_region ?_
    obtain ⟨x3, h4, hF⟩ := bnd hF
    refine vops_rd (rd_mvI rfl) rfl ?_
    refine vops_efE (vef_callP rfl Try.call32 (F_ref05_Stately_ok h4 _)) rfl ?_
    refine vops_rd (rd_not rfl) rfl ?_
    refine vops_nil ?_
    obtain ⟨o5, ho5, hF⟩ := bnd hF
    refine vwp_monoW (Q' := (fun o5 => OnlyE .normal (fun E' lw lc => Weak E' lw lc [(8, .ptr (low0.length + 0) 0 0 0), (9, .ptr (low0.length + 1) 0 0 0)] (low0.set q0 ⟨64, 2, [.agg [.vs 1 (List.map (PV.int .u8) o5.2.l), .int .i64 o5.2.at_]], w0⟩) [⟨24, 8, [.agg [.int .i64 0, .int .i64 0, .int .i64 0, .int .i64 0, .int .i64 0, .int .i64 0, .int .i64 0, .int .i64 0]], 0⟩, ⟨24, 8, [.agg [.int .i64 o5.1.Address, .int .i64 o5.1.Kind, .int .i64 o5.1.Target, .int .i64 o5.1.Offset, .int .i64 o5.1.Scale, .int .i64 o5.1.Error, .int .i64 o5.1.Drift, .int .i64 o5.1.Life]], 0⟩])) o5) ?_ ?_
    · replace hF := ho5
      refine vwp_cond rfl (fun c6 => ?_) (fun c6 => ?_)
      · have hF := bifT c6 hF
        refine vwp_seq ?_
        refine vwp_region ?_
        obtain ⟨x7, h8, hF⟩ := bnd hF
        obtain ⟨x9, h10, hF⟩ := bnd hF
        refine vops_rd (rd_mvP rfl) rfl ?_
        refine vops_efE (vef_callL hq0 (o' := ⟨64, 2, [.agg [.vs 1 (List.map (PV.int .u8) x7.1.l), .int .i64 x7.1.at_]], w0⟩) (ltObj_es ⟨(lt_agg ⟨.vs _ _, .int _ _, trivial⟩), trivial⟩) rfl Try.call19 (F_draw_Codes_Range_ok h8 (get_low hq0))) rfl ?_
        refine vops_rd (rd_mvP rfl) rfl ?_
        refine vops_efE (vef_callL hq0 (o' := ⟨64, 2, [.agg [.vs 1 (List.map (PV.int .u8) x9.1.l), .int .i64 x9.1.at_]], w0⟩) (ltObj_es ⟨(lt_agg ⟨.vs _ _, .int _ _, trivial⟩), trivial⟩) rfl Try.call19 (F_draw_Codes_Range_ok h10 (get_low hq0))) rfl ?_
        refine vops_rd (rd_fieldAddr rfl tf_24_3 ts_3 (by decide)) rfl ?_
        refine vops_efE (vef_store (p := .int .i64 x7.2) (e' := .agg [.int .i64 p2, .int .i64 p1, .int .i64 p3, .int .i64 x7.2, .int .i64 1000, .int .i64 0, .int .i64 0, .int .i64 x1.2]) rfl (getO_N List.length_set rfl) rfl rfl ts_3 rfl (nt_ne rfl) rfl (Nat.le_of_ble_eq_true rfl) rfl (setO_N List.length_set rfl)) rfl ?_
        refine vops_rd (rd_fieldAddr rfl tf_24_4 ts_3 (by decide)) rfl ?_
        refine vops_efE (vef_store (p := .int .i64 x9.2) (e' := .agg [.int .i64 p2, .int .i64 p1, .int .i64 p3, .int .i64 x7.2, .int .i64 x9.2, .int .i64 0, .int .i64 0, .int .i64 x1.2]) rfl (getO_N List.length_set rfl) rfl rfl ts_3 rfl (nt_ne rfl) rfl (Nat.le_of_ble_eq_true rfl) rfl (setO_N List.length_set rfl)) rfl ?_
        refine vops_nil ?_
        refine vwp_region ?_
        obtain ⟨x11, h12, hF⟩ := bnd hF
        obtain ⟨x13, h14, hF⟩ := bnd hF
        refine vops_rd (rd_mvP rfl) rfl ?_
        refine vops_efE (vef_callL hq0 (o' := ⟨64, 2, [.agg [.vs 1 (List.map (PV.int .u8) x11.1.l), .int .i64 x11.1.at_]], w0⟩) (ltObj_es ⟨(lt_agg ⟨.vs _ _, .int _ _, trivial⟩), trivial⟩) rfl Try.call20 (F_draw_Codes_Next_ok h12 (get_low hq0))) rfl ?_
        refine vops_rd (rd_mvP rfl) rfl ?_
        refine vops_efE (vef_callL hq0 (o' := ⟨64, 2, [.agg [.vs 1 (List.map (PV.int .u8) x13.1.l), .int .i64 x13.1.at_]], w0⟩) (ltObj_es ⟨(lt_agg ⟨.vs _ _, .int _ _, trivial⟩), trivial⟩) rfl Try.call20 (F_draw_Codes_Next_ok h14 (get_low hq0))) rfl ?_
        refine vops_rd (rd_fieldAddr rfl tf_24_5 ts_3 (by decide)) rfl ?_
        refine vops_efE (vef_store (p := .int .i64 x11.2) (e' := .agg [.int .i64 p2, .int .i64 p1, .int .i64 p3, .int .i64 x7.2, .int .i64 x9.2, .int .i64 x11.2, .int .i64 0, .int .i64 x1.2]) rfl (getO_N List.length_set rfl) rfl rfl ts_3 rfl (nt_ne rfl) rfl (Nat.le_of_ble_eq_true rfl) rfl (setO_N List.length_set rfl)) rfl ?_
        refine vops_rd (rd_fieldAddr rfl tf_24_6 ts_3 (by decide)) rfl ?_
        refine vops_efE (vef_store (p := .int .i64 x13.2) (e' := .agg [.int .i64 p2, .int .i64 p1, .int .i64 p3, .int .i64 x7.2, .int .i64 x9.2, .int .i64 x11.2, .int .i64 x13.2, .int .i64 x1.2]) rfl (getO_N List.length_set rfl) rfl rfl ts_3 rfl (nt_ne rfl) rfl (Nat.le_of_ble_eq_true rfl) rfl (setO_N List.length_set rfl)) rfl ?_
        refine vops_nil ?_
        obtain rfl := Option.some.inj hF
        refine onlyE ?_
        exact weak_sub ⟨rfl, rfl, trivial⟩
      · have hF := bifF c6 hF
        refine vwp_skip ?_
        obtain rfl := Option.some.inj hF
        refine onlyE ?_
        exact weak_sub ⟨rfl, rfl, trivial⟩
    · rintro _ _ _ _ ⟨rfl, hw⟩
      refine ⟨_, _, _, hw, ?_⟩
      refine vwp_seq ?_
      refine vwp_region ?_
      refine vops_rd (rd_loadN (ds := [.int .i64 o5.1.Address, .int .i64 o5.1.Kind, .int .i64 o5.1.Target, .int .i64 o5.1.Offset, .int .i64 o5.1.Scale, .int .i64 o5.1.Error, .int .i64 o5.1.Drift, .int .i64 o5.1.Life]) rfl (getO_N List.length_set rfl) rfl ta_24 ts_24 rfl rfl rfl) rfl ?_
      refine vops_efE (vef_store (p := .agg [.int .i64 o5.1.Address, .int .i64 o5.1.Kind, .int .i64 o5.1.Target, .int .i64 o5.1.Offset, .int .i64 o5.1.Scale, .int .i64 o5.1.Error, .int .i64 o5.1.Drift, .int .i64 o5.1.Life]) (e' := .agg [.int .i64 o5.1.Address, .int .i64 o5.1.Kind, .int .i64 o5.1.Target, .int .i64 o5.1.Offset, .int .i64 o5.1.Scale, .int .i64 o5.1.Error, .int .i64 o5.1.Drift, .int .i64 o5.1.Life]) rfl (getO_N List.length_set rfl) rfl rfl ts_24 rfl (nt_ne rfl) rfl (Nat.le_of_ble_eq_true rfl) rfl (setO_N List.length_set rfl)) rfl ?_
      refine vops_nil ?_
      refine vwp_ret ?_
      obtain rfl := Option.some.inj hF
      refine fnR ?_
      exact weak_pick List.length_set [(0, 0)] (by decide) ⟨rn_ptr 0 0 rfl rfl, trivial⟩ ⟨⟨_, rfl, rfl, .same _ _ _ _ (ltObj_es ⟨(lt_agg ⟨.int _ _, .int _ _, .int _ _, .int _ _, .int _ _, .int _ _, .int _ _, .int _ _, trivial⟩), trivial⟩)⟩, trivial⟩
  · rintro _ _ _ _ ⟨he, hw⟩
    refine ⟨_, _, _, hw, ?_⟩
    exact bodyQ_pure he [.agg [.int .i64 r.2.Address, .int .i64 r.2.Kind, .int .i64 r.2.Target, .int .i64 r.2.Offset, .int .i64 r.2.Scale, .int .i64 r.2.Error, .int .i64 r.2.Drift, .int .i64 r.2.Life]] ⟨rd_loadN rfl (getO_N List.length_set rfl) rfl ta_24 ts_24 rfl rfl rfl, trivial⟩ ((lt_agg ⟨.int _ _, .int _ _, .int _ _, .int _ _, .int _ _, .int _ _, .int _ _, .int _ _, trivial⟩)) ⟨rfl, rfl⟩

theorem F_draw_Codes_Sensor_ok {p0 : T_draw_Codes} {p1 : Int} {p2 : Int} {p3 : Int} {r : T_draw_Codes × T_Sensor} (hF : F_draw_Codes_Sensor p0 p1 p2 p3 = some r) {low : List AObj} {q0 w0 : Nat} (hq0 : low[q0]? = some ⟨64, 2, [.agg [.vs 1 (List.map (PV.int .u8) p0.l), .int .i64 p0.at_]], w0⟩) :
    VCalls Try.prog 18 [.ptr q0 w0 0 0, .int .i64 p1, .int .i64 p2, .int .i64 p3] low fun x low' => x = .agg [.int .i64 r.2.Address, .int .i64 r.2.Kind, .int .i64 r.2.Target, .int .i64 r.2.Offset, .int .i64 r.2.Scale, .int .i64 r.2.Error, .int .i64 r.2.Drift, .int .i64 r.2.Life] ∧ low' = low.set q0 ⟨64, 2, [.agg [.vs 1 (List.map (PV.int .u8) r.1.l), .int .i64 r.1.at_]], w0⟩ := by
  obtain ⟨h1, h2⟩ := low_set hq0
  have h := F_draw_Codes_Sensor_ok0 hF (w0 := w0) h1
  rw [← h2] at h
  exact h

theorem F_law05_made_ok {p0 : List Int} {p1 : Int} {r : T_Sensor} (hF : F_law05_made p0 p1 = some r) (low : List AObj) :
    VCalls Try.prog 10 [.vs 1 (List.map (PV.int .u8) p0), .int .i64 p1] low fun x low' => x = .agg [.int .i64 r.Address, .int .i64 r.Kind, .int .i64 r.Target, .int .i64 r.Offset, .int .i64 r.Scale, .int .i64 r.Error, .int .i64 r.Drift, .int .i64 r.Life] ∧ low' = low := by
  refine vcalls_of_body (nt := 52) (rs := [.cell 4 24]) Try.func10 rfl rfl (Nat.le_of_ble_eq_true rfl) rfl ?_
  refine vwp_monoW (Q' := FnE (fun E' lw lc => Weak E' lw lc [(4, .ptr (low.length + 0) 0 0 0)] low [⟨24, 8, [.agg [.int .i64 r.Address, .int .i64 r.Kind, .int .i64 r.Target, .int .i64 r.Offset, .int .i64 r.Scale, .int .i64 r.Error, .int .i64 r.Drift, .int .i64 r.Life]], 0⟩])) ?_ ?_
  · unfold F_law05_made at hF
    refine vwp_seq ?_
    refine vwp_region ?_
    refine vops_efE (vef_allocN rfl rfl tz_24 rfl rfl (Nat.succ_pos _) rfl) rfl ?_
    refine vops_nil ?_
    refine vwp_seq ?_
    refine vwp_region ?_
    obtain ⟨x1, h2, hF⟩ := bnd hF
    refine vops_rd (rd_mvV rfl) rfl ?_
    refine vops_efE (vef_callN (r := .ptr (low.length + 1) 0 0 0) (os := [⟨64, 2, [.agg [.vs 1 (List.map (PV.int .u8) x1.l), .int .i64 x1.at_]], 0⟩]) rfl Try.call17 (F_draw_New_ok h2 _ (len_app rfl rfl))) rfl ?_
    refine vops_rd (rd_asP rfl) rfl ?_
    refine vops_nil ?_
    refine vwp_seq ?_
    refine vwp_region ?_
    obtain ⟨x3, h4, hF⟩ := bnd hF
    obtain ⟨x5, h6, hF⟩ := bnd hF
    obtain ⟨x7, h8, hF⟩ := bnd hF
    obtain ⟨x9, h10, hF⟩ := bnd hF
    refine vops_rd (rd_mvP rfl) rfl ?_
    refine vops_rd (rd_mvP rfl) rfl ?_
    refine vops_efE (vef_callMN (k := 1) (loc1 := [⟨24, 8, [.agg [.int .i64 0, .int .i64 0, .int .i64 0, .int .i64 0, .int .i64 0, .int .i64 0, .int .i64 0, .int .i64 0]], 0⟩, ⟨64, 2, [.agg [.vs 1 (List.map (PV.int .u8) x3.1.l), .int .i64 x3.1.at_]], 0⟩]) rfl rfl Try.call19 (F_draw_Codes_Range_ok h4 (get_N rfl rfl)) rfl) rfl ?_
    refine vops_rd (rd_mvP rfl) rfl ?_
    refine vops_efE (vef_callMN (k := 1) (loc1 := [⟨24, 8, [.agg [.int .i64 0, .int .i64 0, .int .i64 0, .int .i64 0, .int .i64 0, .int .i64 0, .int .i64 0, .int .i64 0]], 0⟩, ⟨64, 2, [.agg [.vs 1 (List.map (PV.int .u8) x5.1.l), .int .i64 x5.1.at_]], 0⟩]) rfl rfl Try.call20 (F_draw_Codes_Next_ok h6 (get_N rfl rfl)) rfl) rfl ?_
    refine vops_rd (rd_mvP rfl) rfl ?_
    refine vops_efE (vef_callMN (k := 1) (loc1 := [⟨24, 8, [.agg [.int .i64 0, .int .i64 0, .int .i64 0, .int .i64 0, .int .i64 0, .int .i64 0, .int .i64 0, .int .i64 0]], 0⟩, ⟨64, 2, [.agg [.vs 1 (List.map (PV.int .u8) x7.1.l), .int .i64 x7.1.at_]], 0⟩]) rfl rfl Try.call20 (F_draw_Codes_Next_ok h8 (get_N rfl rfl)) rfl) rfl ?_
    refine vops_efE (vef_callMN (k := 1) (loc1 := [⟨24, 8, [.agg [.int .i64 0, .int .i64 0, .int .i64 0, .int .i64 0, .int .i64 0, .int .i64 0, .int .i64 0, .int .i64 0]], 0⟩, ⟨64, 2, [.agg [.vs 1 (List.map (PV.int .u8) x9.1.l), .int .i64 x9.1.at_]], 0⟩]) rfl rfl Try.call18 (F_draw_Codes_Sensor_ok h10 (get_N rfl rfl)) rfl) rfl ?_
    refine vops_efE (vef_allocN rfl rfl tz_24 rfl rfl (Nat.succ_pos _) rfl) rfl ?_
    refine vops_efE (vef_store (p := .agg [.int .i64 x9.2.Address, .int .i64 x9.2.Kind, .int .i64 x9.2.Target, .int .i64 x9.2.Offset, .int .i64 x9.2.Scale, .int .i64 x9.2.Error, .int .i64 x9.2.Drift, .int .i64 x9.2.Life]) (e' := .agg [.int .i64 x9.2.Address, .int .i64 x9.2.Kind, .int .i64 x9.2.Target, .int .i64 x9.2.Offset, .int .i64 x9.2.Scale, .int .i64 x9.2.Error, .int .i64 x9.2.Drift, .int .i64 x9.2.Life]) rfl (getO_N rfl rfl) rfl rfl ts_24 rfl (nt_ne rfl) rfl (Nat.le_of_ble_eq_true rfl) rfl (setO_N rfl rfl)) rfl ?_
    refine vops_nil ?_
    refine vwp_seq ?_
    refine vwp_seq ?_
    refine vwp_region ?_
    obtain ⟨x11, h12, hF⟩ := bnd hF
    refine vops_rd (rd_mvP rfl) rfl ?_
    refine vops_efE (vef_callMN (k := 1) (loc1 := [⟨24, 8, [.agg [.int .i64 0, .int .i64 0, .int .i64 0, .int .i64 0, .int .i64 0, .int .i64 0, .int .i64 0, .int .i64 0]], 0⟩, ⟨64, 2, [.agg [.vs 1 (List.map (PV.int .u8) x11.1.l), .int .i64 x11.1.at_]], 0⟩, ⟨24, 8, [.agg [.int .i64 x9.2.Address, .int .i64 x9.2.Kind, .int .i64 x9.2.Target, .int .i64 x9.2.Offset, .int .i64 x9.2.Scale, .int .i64 x9.2.Error, .int .i64 x9.2.Drift, .int .i64 x9.2.Life]], 0⟩]) rfl rfl Try.call20 (F_draw_Codes_Next_ok h12 (get_N rfl rfl)) rfl) rfl ?_
    refine vops_nil ?_
    obtain ⟨o13, ho13, hF⟩ := bnd hF
    refine vwp_monoW (Q' := (fun o13 => OnlyE .normal (fun E' lw lc => Weak E' lw lc [(4, .ptr (low.length + 0) 0 0 0), (6, .ptr (low.length + 1) 0 0 0)] low [⟨24, 8, [.agg [.int .i64 0, .int .i64 0, .int .i64 0, .int .i64 0, .int .i64 0, .int .i64 0, .int .i64 0, .int .i64 0]], 0⟩, ⟨24, 8, [.agg [.int .i64 o13.Address, .int .i64 o13.Kind, .int .i64 o13.Target, .int .i64 o13.Offset, .int .i64 o13.Scale, .int .i64 o13.Error, .int .i64 o13.Drift, .int .i64 o13.Life]], 0⟩])) o13) ?_ ?_
    · replace hF := ho13
      refine vwp_block ?_
      refine vwp_seq ?_
      refine vwp_region ?_
      refine vops_rd (rd_eql rfl rfl) rfl ?_
      refine vops_rd (rd_asB rfl) rfl ?_
      refine vops_nil ?_
      refine vwp_cond rfl (fun c14 => ?_) (fun c14 => ?_)
      · have hF := bifT c14 hF
        refine vwp_region ?_
        refine vops_rd (rd_mvI rfl) rfl ?_
        refine vops_rd (rd_fieldAddr rfl tf_24_1 ts_3 (by decide)) rfl ?_
        refine vops_efE (vef_store (p := .int .i64 p1) (e' := .agg [.int .i64 x9.2.Address, .int .i64 p1, .int .i64 x9.2.Target, .int .i64 x9.2.Offset, .int .i64 x9.2.Scale, .int .i64 x9.2.Error, .int .i64 x9.2.Drift, .int .i64 x9.2.Life]) rfl (getO_N rfl rfl) rfl rfl ts_3 rfl (nt_ne rfl) rfl (Nat.le_of_ble_eq_true rfl) rfl (setO_N rfl rfl)) rfl ?_
        refine vops_nil ?_
        obtain rfl := Option.some.inj hF
        refine onlyE ?_
        exact weak_pick rfl [(0, 0), (2, 0)] (by decide) ⟨rn_ptr 0 0 rfl rfl, rn_ptr 1 2 rfl rfl, trivial⟩ ⟨⟨_, rfl, rfl, .same _ _ _ _ (ltObj_es ⟨(lt_agg ⟨.int _ _, .int _ _, .int _ _, .int _ _, .int _ _, .int _ _, .int _ _, .int _ _, trivial⟩), trivial⟩)⟩, ⟨_, rfl, rfl, .same _ _ _ _ (ltObj_es ⟨(lt_agg ⟨.int _ _, .int _ _, .int _ _, .int _ _, .int _ _, .int _ _, .int _ _, .int _ _, trivial⟩), trivial⟩)⟩, trivial⟩
      · have hF := bifF c14 hF
        refine vwp_seq ?_
        refine vwp_region ?_
        refine vops_rd (rd_eql rfl rfl) rfl ?_
        refine vops_rd (rd_asB rfl) rfl ?_
        refine vops_nil ?_
        refine vwp_cond rfl (fun c15 => ?_) (fun c15 => ?_)
        · have hF := bifT c15 hF
          refine vwp_region ?_
          refine vops_rd (rd_mvI rfl) rfl ?_
          refine vops_rd (rd_fieldAddr rfl tf_24_0 ts_3 (by decide)) rfl ?_
          refine vops_efE (vef_store (p := .int .i64 p1) (e' := .agg [.int .i64 p1, .int .i64 x9.2.Kind, .int .i64 x9.2.Target, .int .i64 x9.2.Offset, .int .i64 x9.2.Scale, .int .i64 x9.2.Error, .int .i64 x9.2.Drift, .int .i64 x9.2.Life]) rfl (getO_N rfl rfl) rfl rfl ts_3 rfl (nt_ne rfl) rfl (Nat.le_of_ble_eq_true rfl) rfl (setO_N rfl rfl)) rfl ?_
          refine vops_nil ?_
          obtain rfl := Option.some.inj hF
          refine onlyE ?_
          exact weak_pick rfl [(0, 0), (2, 0)] (by decide) ⟨rn_ptr 0 0 rfl rfl, rn_ptr 1 2 rfl rfl, trivial⟩ ⟨⟨_, rfl, rfl, .same _ _ _ _ (ltObj_es ⟨(lt_agg ⟨.int _ _, .int _ _, .int _ _, .int _ _, .int _ _, .int _ _, .int _ _, .int _ _, trivial⟩), trivial⟩)⟩, ⟨_, rfl, rfl, .same _ _ _ _ (ltObj_es ⟨(lt_agg ⟨.int _ _, .int _ _, .int _ _, .int _ _, .int _ _, .int _ _, .int _ _, .int _ _, trivial⟩), trivial⟩)⟩, trivial⟩
        · have hF := bifF c15 hF
          refine vwp_seq ?_
          refine vwp_region ?_
          refine vops_rd (rd_eql rfl rfl) rfl ?_
          refine vops_rd (rd_asB rfl) rfl ?_
          refine vops_nil ?_
          refine vwp_cond rfl (fun c16 => ?_) (fun c16 => ?_)
          · have hF := bifT c16 hF
            refine vwp_region ?_
            refine vops_rd (rd_mvI rfl) rfl ?_
            refine vops_rd (rd_fieldAddr rfl tf_24_2 ts_3 (by decide)) rfl ?_
            refine vops_efE (vef_store (p := .int .i64 p1) (e' := .agg [.int .i64 x9.2.Address, .int .i64 x9.2.Kind, .int .i64 p1, .int .i64 x9.2.Offset, .int .i64 x9.2.Scale, .int .i64 x9.2.Error, .int .i64 x9.2.Drift, .int .i64 x9.2.Life]) rfl (getO_N rfl rfl) rfl rfl ts_3 rfl (nt_ne rfl) rfl (Nat.le_of_ble_eq_true rfl) rfl (setO_N rfl rfl)) rfl ?_
            refine vops_nil ?_
            obtain rfl := Option.some.inj hF
            refine onlyE ?_
            exact weak_pick rfl [(0, 0), (2, 0)] (by decide) ⟨rn_ptr 0 0 rfl rfl, rn_ptr 1 2 rfl rfl, trivial⟩ ⟨⟨_, rfl, rfl, .same _ _ _ _ (ltObj_es ⟨(lt_agg ⟨.int _ _, .int _ _, .int _ _, .int _ _, .int _ _, .int _ _, .int _ _, .int _ _, trivial⟩), trivial⟩)⟩, ⟨_, rfl, rfl, .same _ _ _ _ (ltObj_es ⟨(lt_agg ⟨.int _ _, .int _ _, .int _ _, .int _ _, .int _ _, .int _ _, .int _ _, .int _ _, trivial⟩), trivial⟩)⟩, trivial⟩
          · have hF := bifF c16 hF
            refine vwp_seq ?_
            refine vwp_region ?_
            refine vops_rd (rd_eql rfl rfl) rfl ?_
            refine vops_rd (rd_asB rfl) rfl ?_
            refine vops_nil ?_
            refine vwp_cond rfl (fun c17 => ?_) (fun c17 => ?_)
            · have hF := bifT c17 hF
              refine vwp_region ?_
              refine vops_rd (rd_mvI rfl) rfl ?_
              refine vops_rd (rd_fieldAddr rfl tf_24_3 ts_3 (by decide)) rfl ?_
              refine vops_efE (vef_store (p := .int .i64 p1) (e' := .agg [.int .i64 x9.2.Address, .int .i64 x9.2.Kind, .int .i64 x9.2.Target, .int .i64 p1, .int .i64 x9.2.Scale, .int .i64 x9.2.Error, .int .i64 x9.2.Drift, .int .i64 x9.2.Life]) rfl (getO_N rfl rfl) rfl rfl ts_3 rfl (nt_ne rfl) rfl (Nat.le_of_ble_eq_true rfl) rfl (setO_N rfl rfl)) rfl ?_
              refine vops_nil ?_
              obtain rfl := Option.some.inj hF
              refine onlyE ?_
              exact weak_pick rfl [(0, 0), (2, 0)] (by decide) ⟨rn_ptr 0 0 rfl rfl, rn_ptr 1 2 rfl rfl, trivial⟩ ⟨⟨_, rfl, rfl, .same _ _ _ _ (ltObj_es ⟨(lt_agg ⟨.int _ _, .int _ _, .int _ _, .int _ _, .int _ _, .int _ _, .int _ _, .int _ _, trivial⟩), trivial⟩)⟩, ⟨_, rfl, rfl, .same _ _ _ _ (ltObj_es ⟨(lt_agg ⟨.int _ _, .int _ _, .int _ _, .int _ _, .int _ _, .int _ _, .int _ _, .int _ _, trivial⟩), trivial⟩)⟩, trivial⟩
            · have hF := bifF c17 hF
              refine vwp_seq ?_
              refine vwp_region ?_
              refine vops_rd (rd_eql rfl rfl) rfl ?_
              refine vops_rd (rd_asB rfl) rfl ?_
              refine vops_nil ?_
              refine vwp_cond rfl (fun c18 => ?_) (fun c18 => ?_)
              · have hF := bifT c18 hF
                refine vwp_region ?_
                refine vops_rd (rd_mvI rfl) rfl ?_
                refine vops_rd (rd_fieldAddr rfl tf_24_4 ts_3 (by decide)) rfl ?_
                refine vops_efE (vef_store (p := .int .i64 p1) (e' := .agg [.int .i64 x9.2.Address, .int .i64 x9.2.Kind, .int .i64 x9.2.Target, .int .i64 x9.2.Offset, .int .i64 p1, .int .i64 x9.2.Error, .int .i64 x9.2.Drift, .int .i64 x9.2.Life]) rfl (getO_N rfl rfl) rfl rfl ts_3 rfl (nt_ne rfl) rfl (Nat.le_of_ble_eq_true rfl) rfl (setO_N rfl rfl)) rfl ?_
                refine vops_nil ?_
                obtain rfl := Option.some.inj hF
                refine onlyE ?_
                exact weak_pick rfl [(0, 0), (2, 0)] (by decide) ⟨rn_ptr 0 0 rfl rfl, rn_ptr 1 2 rfl rfl, trivial⟩ ⟨⟨_, rfl, rfl, .same _ _ _ _ (ltObj_es ⟨(lt_agg ⟨.int _ _, .int _ _, .int _ _, .int _ _, .int _ _, .int _ _, .int _ _, .int _ _, trivial⟩), trivial⟩)⟩, ⟨_, rfl, rfl, .same _ _ _ _ (ltObj_es ⟨(lt_agg ⟨.int _ _, .int _ _, .int _ _, .int _ _, .int _ _, .int _ _, .int _ _, .int _ _, trivial⟩), trivial⟩)⟩, trivial⟩
              · have hF := bifF c18 hF
                refine vwp_seq ?_
                refine vwp_region ?_
                refine vops_rd (rd_eql rfl rfl) rfl ?_
                refine vops_rd (rd_asB rfl) rfl ?_
                refine vops_nil ?_
                refine vwp_cond rfl (fun c19 => ?_) (fun c19 => ?_)
                · have hF := bifT c19 hF
                  refine vwp_region ?_
                  refine vops_rd (rd_mvI rfl) rfl ?_
                  refine vops_rd (rd_fieldAddr rfl tf_24_5 ts_3 (by decide)) rfl ?_
                  refine vops_efE (vef_store (p := .int .i64 p1) (e' := .agg [.int .i64 x9.2.Address, .int .i64 x9.2.Kind, .int .i64 x9.2.Target, .int .i64 x9.2.Offset, .int .i64 x9.2.Scale, .int .i64 p1, .int .i64 x9.2.Drift, .int .i64 x9.2.Life]) rfl (getO_N rfl rfl) rfl rfl ts_3 rfl (nt_ne rfl) rfl (Nat.le_of_ble_eq_true rfl) rfl (setO_N rfl rfl)) rfl ?_
                  refine vops_nil ?_
                  obtain rfl := Option.some.inj hF
                  refine onlyE ?_
                  exact weak_pick rfl [(0, 0), (2, 0)] (by decide) ⟨rn_ptr 0 0 rfl rfl, rn_ptr 1 2 rfl rfl, trivial⟩ ⟨⟨_, rfl, rfl, .same _ _ _ _ (ltObj_es ⟨(lt_agg ⟨.int _ _, .int _ _, .int _ _, .int _ _, .int _ _, .int _ _, .int _ _, .int _ _, trivial⟩), trivial⟩)⟩, ⟨_, rfl, rfl, .same _ _ _ _ (ltObj_es ⟨(lt_agg ⟨.int _ _, .int _ _, .int _ _, .int _ _, .int _ _, .int _ _, .int _ _, .int _ _, trivial⟩), trivial⟩)⟩, trivial⟩
                · have hF := bifF c19 hF
                  refine vwp_seq ?_
                  refine vwp_region ?_
                  refine vops_rd (rd_eql rfl rfl) rfl ?_
                  refine vops_rd (rd_asB rfl) rfl ?_
                  refine vops_nil ?_
                  refine vwp_cond rfl (fun c20 => ?_) (fun c20 => ?_)
                  · have hF := bifT c20 hF
                    refine vwp_region ?_
                    refine vops_rd (rd_mvI rfl) rfl ?_
                    refine vops_rd (rd_fieldAddr rfl tf_24_6 ts_3 (by decide)) rfl ?_
                    refine vops_efE (vef_store (p := .int .i64 p1) (e' := .agg [.int .i64 x9.2.Address, .int .i64 x9.2.Kind, .int .i64 x9.2.Target, .int .i64 x9.2.Offset, .int .i64 x9.2.Scale, .int .i64 x9.2.Error, .int .i64 p1, .int .i64 x9.2.Life]) rfl (getO_N rfl rfl) rfl rfl ts_3 rfl (nt_ne rfl) rfl (Nat.le_of_ble_eq_true rfl) rfl (setO_N rfl rfl)) rfl ?_
                    refine vops_nil ?_
                    obtain rfl := Option.some.inj hF
                    refine onlyE ?_
                    exact weak_pick rfl [(0, 0), (2, 0)] (by decide) ⟨rn_ptr 0 0 rfl rfl, rn_ptr 1 2 rfl rfl, trivial⟩ ⟨⟨_, rfl, rfl, .same _ _ _ _ (ltObj_es ⟨(lt_agg ⟨.int _ _, .int _ _, .int _ _, .int _ _, .int _ _, .int _ _, .int _ _, .int _ _, trivial⟩), trivial⟩)⟩, ⟨_, rfl, rfl, .same _ _ _ _ (ltObj_es ⟨(lt_agg ⟨.int _ _, .int _ _, .int _ _, .int _ _, .int _ _, .int _ _, .int _ _, .int _ _, trivial⟩), trivial⟩)⟩, trivial⟩
                  · have hF := bifF c20 hF
                    refine vwp_seq ?_
                    refine vwp_region ?_
                    refine vops_rd (rd_eql rfl rfl) rfl ?_
                    refine vops_rd (rd_asB rfl) rfl ?_
                    refine vops_nil ?_
                    refine vwp_cond rfl (fun c21 => ?_) (fun c21 => ?_)
                    · have hF := bifT c21 hF
                      refine vwp_region ?_
                      refine vops_rd (rd_mvI rfl) rfl ?_
                      refine vops_rd (rd_fieldAddr rfl tf_24_7 ts_3 (by decide)) rfl ?_
                      refine vops_efE (vef_store (p := .int .i64 p1) (e' := .agg [.int .i64 x9.2.Address, .int .i64 x9.2.Kind, .int .i64 x9.2.Target, .int .i64 x9.2.Offset, .int .i64 x9.2.Scale, .int .i64 x9.2.Error, .int .i64 x9.2.Drift, .int .i64 p1]) rfl (getO_N rfl rfl) rfl rfl ts_3 rfl (nt_ne rfl) rfl (Nat.le_of_ble_eq_true rfl) rfl (setO_N rfl rfl)) rfl ?_
                      refine vops_nil ?_
                      obtain rfl := Option.some.inj hF
                      refine onlyE ?_
                      exact weak_pick rfl [(0, 0), (2, 0)] (by decide) ⟨rn_ptr 0 0 rfl rfl, rn_ptr 1 2 rfl rfl, trivial⟩ ⟨⟨_, rfl, rfl, .same _ _ _ _ (ltObj_es ⟨(lt_agg ⟨.int _ _, .int _ _, .int _ _, .int _ _, .int _ _, .int _ _, .int _ _, .int _ _, trivial⟩), trivial⟩)⟩, ⟨_, rfl, rfl, .same _ _ _ _ (ltObj_es ⟨(lt_agg ⟨.int _ _, .int _ _, .int _ _, .int _ _, .int _ _, .int _ _, .int _ _, .int _ _, trivial⟩), trivial⟩)⟩, trivial⟩
                    · have hF := bifF c21 hF
                      refine vwp_skip ?_
                      obtain rfl := Option.some.inj hF
                      refine onlyE ?_
                      exact weak_pick rfl [(0, 0), (2, 0)] (by decide) ⟨rn_ptr 0 0 rfl rfl, rn_ptr 1 2 rfl rfl, trivial⟩ ⟨⟨_, rfl, rfl, .same _ _ _ _ (ltObj_es ⟨(lt_agg ⟨.int _ _, .int _ _, .int _ _, .int _ _, .int _ _, .int _ _, .int _ _, .int _ _, trivial⟩), trivial⟩)⟩, ⟨_, rfl, rfl, .same _ _ _ _ (ltObj_es ⟨(lt_agg ⟨.int _ _, .int _ _, .int _ _, .int _ _, .int _ _, .int _ _, .int _ _, .int _ _, trivial⟩), trivial⟩)⟩, trivial⟩
    · rintro _ _ _ _ ⟨rfl, hw⟩
      refine ⟨_, _, _, hw, ?_⟩
      refine vwp_seq ?_
      refine vwp_region ?_
      refine vops_rd (rd_loadN (ds := [.int .i64 o13.Address, .int .i64 o13.Kind, .int .i64 o13.Target, .int .i64 o13.Offset, .int .i64 o13.Scale, .int .i64 o13.Error, .int .i64 o13.Drift, .int .i64 o13.Life]) rfl (getO_N rfl rfl) rfl ta_24 ts_24 rfl rfl rfl) rfl ?_
      refine vops_efE (vef_store (p := .agg [.int .i64 o13.Address, .int .i64 o13.Kind, .int .i64 o13.Target, .int .i64 o13.Offset, .int .i64 o13.Scale, .int .i64 o13.Error, .int .i64 o13.Drift, .int .i64 o13.Life]) (e' := .agg [.int .i64 o13.Address, .int .i64 o13.Kind, .int .i64 o13.Target, .int .i64 o13.Offset, .int .i64 o13.Scale, .int .i64 o13.Error, .int .i64 o13.Drift, .int .i64 o13.Life]) rfl (getO_N rfl rfl) rfl rfl ts_24 rfl (nt_ne rfl) rfl (Nat.le_of_ble_eq_true rfl) rfl (setO_N rfl rfl)) rfl ?_
      refine vops_nil ?_
      refine vwp_ret ?_
      obtain rfl := Option.some.inj hF
      refine fnR ?_
      exact weak_pick rfl [(0, 0)] (by decide) ⟨rn_ptr 0 0 rfl rfl, trivial⟩ ⟨⟨_, rfl, rfl, .same _ _ _ _ (ltObj_es ⟨(lt_agg ⟨.int _ _, .int _ _, .int _ _, .int _ _, .int _ _, .int _ _, .int _ _, .int _ _, trivial⟩), trivial⟩)⟩, trivial⟩
  · rintro _ _ _ _ ⟨he, hw⟩
    refine ⟨_, _, _, hw, ?_⟩
    exact bodyQ_pure he [.agg [.int .i64 r.Address, .int .i64 r.Kind, .int .i64 r.Target, .int .i64 r.Offset, .int .i64 r.Scale, .int .i64 r.Error, .int .i64 r.Drift, .int .i64 r.Life]] ⟨rd_loadN rfl (getO_N rfl rfl) rfl ta_24 ts_24 rfl rfl rfl, trivial⟩ ((lt_agg ⟨.int _ _, .int _ _, .int _ _, .int _ _, .int _ _, .int _ _, .int _ _, .int _ _, trivial⟩)) ⟨rfl, rfl⟩

theorem F_sensor_in_ok {p0 : Int} {p1 : Int} {p2 : List Int} {r : Bool} (hF : F_sensor_in p0 p1 p2 = some r) (low : List AObj) :
    VCalls Try.prog 28 [.int .i64 p0, .int .i64 p1, .vs 1 (List.map (PV.int .i64) p2)] low fun x low' => x = .bool r ∧ low' = low := by
  refine vcalls_of_body (nt := 24) (rs := [.tmp 6]) Try.func28 rfl rfl (Nat.le_of_ble_eq_true rfl) rfl ?_
  refine vwp_monoW (Q' := FnE (fun E' lw lc => Weak E' lw lc [(6, .bool r)] low [])) ?_ ?_
  · unfold F_sensor_in at hF
    refine vwp_seq ?_
    refine vwp_region ?_
    refine vops_rd (rd_asB rfl) rfl ?_
    refine vops_nil ?_
    refine vwp_seq ?_
    refine vwp_seq ?_
    refine vwp_region ?_
    refine vops_rd (rd_mvV rfl) rfl ?_
    refine vops_rd (rd_to (rd_lenV rfl rfl te_52) (congrArg (fun n : Nat => PV.int .i64 (n : Int)) (List.length_map _))) rfl ?_
    refine vops_rd (rd_mvI rfl) rfl ?_
    refine vops_nil ?_
    refine vwp_block ?_
    obtain ⟨o2, ho2, hF⟩ := bnd hF
    refine vwp_monoW (vwp_loopC (F_sensor_in_L1 p0 p1 p2) (fun s1 E' lw lc => Weak E' lw lc [(0, .int .i64 p0), (1, .int .i64 p1), (9, .vs 1 (List.map (PV.int .i64) p2)), (10, .int .i64 ((p2).length : Int)), (11, .int .i64 s1)] low []) (Sum.elim (fun j3 => OnlyE .ret (fun E' lw lc => Weak E' lw lc [(6, .bool false)] low [])) (fun j4 => OnlyE (.exit 0) (fun E' lw lc => Weak E' lw lc [] low []))) ho2 ?_ (by rintro (_|_) _ _ _ ⟨h, _⟩ <;> cases h) ?_) ?_
    · exact weak_sub ⟨rfl, rfl, rfl, rfl, rfl, trivial⟩
    · rintro s1 os1 _ _ _ hF hw
      unfold F_sensor_in_L1 at hF
      refine vwp_weak hw ?_
      refine vwp_seq ?_
      refine vwp_region ?_
      refine vops_rd (rd_lss rfl rfl) rfl ?_
      refine vops_nil ?_
      refine vwp_seq ?_
      refine vwp_cond rfl (fun c5 => ?_) (fun c5 => ?_)
      · have hF := bifT c5 hF
        refine vwp_skip ?_
        refine vwp_seq ?_
        refine vwp_block ?_
        refine vwp_seq ?_
        refine vwp_region ?_
        obtain ⟨x6, h7, hF⟩ := bnd hF
        refine vops_rd (rd_to (rd_ixV rfl rfl h7 te_52 ts_3) (v' := .vptr [.int .i64 x6] 0) rfl) rfl ?_
        refine vops_rd (rd_loadV1 rfl ta_3 rfl) rfl ?_
        refine vops_rd (rd_asI rfl) rfl ?_
        refine vops_nil ?_
        refine vwp_seq ?_
        obtain ⟨o8, ho8, hF⟩ := bnd hF
        refine vwp_monoW (Q' := (fun o8 => OnlyE .normal (fun E' lw lc => Weak E' lw lc [(0, .int .i64 p0), (1, .int .i64 p1), (9, .vs 1 (List.map (PV.int .i64) p2)), (10, .int .i64 ((p2).length : Int)), (11, .int .i64 s1), (22, .bool o8)] low [])) o8) ?_ ?_
        · replace hF := ho8
          refine vwp_region ?_
          rcases Bool.eq_false_or_eq_true (decide (x6 < p0)) with c9 | c9
          · have hF := bifT c9 hF
            refine vops_rd (rd_mvI rfl) rfl ?_
            refine vops_rd (rd_mvI rfl) rfl ?_
            refine vops_rd (rd_lss rfl rfl) rfl ?_
            refine vops_rd (rd_mvB rfl) rfl ?_
            refine vops_skip rfl rfl (neT c9) rfl ?_
            refine vops_skip rfl rfl (neT c9) rfl ?_
            refine vops_skip rfl rfl (neT c9) rfl ?_
            refine vops_rd (rd_pickT (congrArg PV.bool c9) rfl) rfl ?_
            refine vops_nil ?_
            obtain rfl := Option.some.inj hF
            refine onlyE ?_
            exact weak_sub ⟨rfl, rfl, rfl, rfl, rfl, rfl, trivial⟩
          · have hF := bifF c9 hF
            refine vops_rd (rd_mvI rfl) rfl ?_
            refine vops_rd (rd_mvI rfl) rfl ?_
            refine vops_rd (rd_lss rfl rfl) rfl ?_
            refine vops_rd (rd_mvB rfl) rfl ?_
            refine vops_take rfl (congrArg PV.bool c9) ?_
            refine vops_rd (rd_mvI rfl) rfl ?_
            refine vops_take rfl (congrArg PV.bool c9) ?_
            refine vops_rd (rd_mvI rfl) rfl ?_
            refine vops_take rfl (congrArg PV.bool c9) ?_
            refine vops_rd (rd_gtr rfl rfl) rfl ?_
            refine vops_rd (rd_pickF (congrArg PV.bool c9) rfl) rfl ?_
            refine vops_nil ?_
            obtain rfl := Option.some.inj hF
            refine onlyE ?_
            exact weak_sub ⟨rfl, rfl, rfl, rfl, rfl, rfl, trivial⟩
        · rintro _ _ _ _ ⟨rfl, hw⟩
          refine ⟨_, _, _, hw, ?_⟩
          refine vwp_cond rfl (fun c10 => ?_) (fun c10 => ?_)
          · have hF := bifT c10 hF
            refine vwp_seq ?_
            refine vwp_region ?_
            refine vops_rd (rd_asB rfl) rfl ?_
            refine vops_nil ?_
            refine vwp_ret ?_
            obtain rfl := Option.some.inj hF
            refine onlyE ?_
            exact weak_sub ⟨rfl, trivial⟩
          · have hF := bifF c10 hF
            refine vwp_skip ?_
            refine vwp_region ?_
            refine vops_rd (rd_add rfl rfl rfl) rfl ?_
            refine vops_rd (rd_mvI rfl) rfl ?_
            refine vops_nil ?_
            obtain rfl := Option.some.inj hF
            refine onlyE ?_
            exact weak_sub ⟨rfl, rfl, rfl, rfl, rfl, trivial⟩
      · have hF := bifF c5 hF
        refine vwp_exit ?_
        obtain rfl := Option.some.inj hF
        refine onlyE ?_
        exact weak_sub trivial
    · rcases o2 with j3 | j4
      · replace hF := elimL hF
        rintro _ _ _ _ ⟨rfl, hw⟩
        refine ⟨_, _, _, hw, ?_⟩
        obtain rfl := Option.some.inj hF
        refine fnR ?_
        exact weak_sub ⟨rfl, trivial⟩
      · replace hF := elimR hF
        rintro _ _ _ _ ⟨rfl, hw⟩
        refine ⟨_, _, _, hw, ?_⟩
        refine vwp_seq ?_
        refine vwp_region ?_
        refine vops_rd (rd_asB rfl) rfl ?_
        refine vops_nil ?_
        refine vwp_ret ?_
        obtain rfl := Option.some.inj hF
        refine fnR ?_
        exact weak_sub ⟨rfl, trivial⟩
  · rintro _ _ _ _ ⟨he, hw⟩
    refine ⟨_, _, _, hw, ?_⟩
    exact bodyQ_pure he [.bool r] ⟨rfl, trivial⟩ (.bool _) ⟨rfl, rfl⟩

theorem F_sensor_Check_ok {p0 : T_Sensor} {r : Int} (hF : F_sensor_Check p0 = some r) (low : List AObj) :
    VCalls Try.prog 11 [.agg [.int .i64 p0.Address, .int .i64 p0.Kind, .int .i64 p0.Target, .int .i64 p0.Offset, .int .i64 p0.Scale, .int .i64 p0.Error, .int .i64 p0.Drift, .int .i64 p0.Life]] low fun x low' => x = .int .i64 r ∧ low' = low := by
  refine vcalls_of_body (nt := 44) (rs := [.tmp 2]) Try.func11 rfl rfl (Nat.le_of_ble_eq_true rfl) rfl ?_
  refine vwp_monoW (Q' := FnE (fun E' lw lc => Weak E' lw lc [(2, .int .i64 r)] low [])) ?_ ?_
  · unfold F_sensor_Check at hF
    refine vwp_seq ?_
    refine vwp_region ?_
    refine vops_efE (vef_boxN rfl rfl (v := .agg [.int .i64 p0.Address, .int .i64 p0.Kind, .int .i64 p0.Target, .int .i64 p0.Offset, .int .i64 p0.Scale, .int .i64 p0.Error, .int .i64 p0.Drift, .int .i64 p0.Life]) rfl rfl (Nat.succ_pos _) rfl rfl) rfl ?_
    refine vops_rd (rd_asI rfl) rfl ?_
    refine vops_nil ?_
    refine vwp_seq ?_
    refine vwp_block ?_
    refine vwp_seq ?_
    refine vwp_region ?_
    obtain ⟨x1, h2, hF⟩ := bnd hF
    refine vops_rd (rd_fieldAddr rfl tf_24_1 ts_3 (by decide)) rfl ?_
    refine vops_rd (rd_load1 rfl (getO_N rfl rfl) rfl ta_3 rfl) rfl ?_
    refine vops_efE (vef_litF (es := List.map (PV.int .i64) [p0.Kind]) ⟨rfl, rfl, trivial⟩ rfl rfl (nt_all rfl) te_52 ts_3 tz_3 rfl rfl (Nat.succ_pos _) (by decide) (lt_map (fun _ => .int _ _))) rfl ?_
    refine vops_efE (vef_callP rfl Try.call28 (F_sensor_in_ok h2 _)) rfl ?_
    refine vops_rd (rd_not rfl) rfl ?_
    refine vops_rd (rd_asB rfl) rfl ?_
    refine vops_nil ?_
    refine vwp_cond rfl (fun c3 => ?_) (fun c3 => ?_)
    · have hF := bifT c3 hF
      refine vwp_seq ?_
      refine vwp_region ?_
      refine vops_rd (rd_asI rfl) rfl ?_
      refine vops_nil ?_
      refine vwp_ret ?_
      obtain rfl := Option.some.inj hF
      refine fnR ?_
      exact weak_pick rfl [] (by decide) ⟨rn_low rfl (.int _ _), trivial⟩ trivial
    · have hF := bifF c3 hF
      refine vwp_seq ?_
      obtain ⟨o4, ho4, hF⟩ := bnd hF
      refine vwp_monoW (Q' := (fun o4 => OnlyE .normal (fun E' lw lc => Weak E' lw lc [(1, .ptr (low.length + 0) 0 0 0), (9, .bool o4)] low [⟨24, 8, [.agg [.int .i64 p0.Address, .int .i64 p0.Kind, .int .i64 p0.Target, .int .i64 p0.Offset, .int .i64 p0.Scale, .int .i64 p0.Error, .int .i64 p0.Drift, .int .i64 p0.Life]], 0⟩])) o4) ?_ ?_
      · replace hF := ho4
        refine vwp_region ?_
        obtain ⟨x5, h6, hF⟩ := bnd hF
        rcases Bool.eq_false_or_eq_true (!x5) with c7 | c7
        · have hF := bifT c7 hF
          refine vops_rd (rd_fieldAddr rfl tf_24_0 ts_3 (by decide)) rfl ?_
          refine vops_rd (rd_load1 rfl (getO_N rfl rfl) rfl ta_3 rfl) rfl ?_
          refine vops_efE (vef_litF (es := List.map (PV.int .i64) [p0.Address]) ⟨rfl, rfl, trivial⟩ rfl rfl (nt_all rfl) te_52 ts_3 tz_3 rfl rfl (Nat.succ_pos _) (by decide) (lt_map (fun _ => .int _ _))) rfl ?_
          refine vops_efE (vef_callP rfl Try.call28 (F_sensor_in_ok h6 _)) rfl ?_
          refine vops_rd (rd_not rfl) rfl ?_
          refine vops_rd (rd_mvB rfl) rfl ?_
          refine vops_skip rfl rfl (neT c7) rfl ?_
          refine vops_skip rfl rfl (neT c7) rfl ?_
          refine vops_skip rfl rfl (neT c7) rfl ?_
          refine vops_rd (rd_pickT (congrArg PV.bool c7) rfl) rfl ?_
          refine vops_rd (rd_mvB rfl) rfl ?_
          refine vops_skip rfl rfl (by decide) rfl ?_
          refine vops_skip rfl rfl (by decide) rfl ?_
          refine vops_skip rfl rfl (by decide) rfl ?_
          refine vops_skip rfl rfl (by decide) rfl ?_
          refine vops_skip rfl rfl (by decide) rfl ?_
          refine vops_skip rfl rfl (by decide) rfl ?_
          refine vops_skip rfl rfl (by decide) rfl ?_
          refine vops_rd (rd_pickT rfl rfl) rfl ?_
          refine vops_rd (rd_asB rfl) rfl ?_
          refine vops_nil ?_
          obtain rfl := Option.some.inj hF
          refine onlyE ?_
          exact weak_sub ⟨rfl, rfl, trivial⟩
        · have hF := bifF c7 hF
          rcases Bool.eq_false_or_eq_true (decide (p0.Target < 0)) with c8 | c8
          · have hF := bifT c8 hF
            refine vops_rd (rd_fieldAddr rfl tf_24_0 ts_3 (by decide)) rfl ?_
            refine vops_rd (rd_load1 rfl (getO_N rfl rfl) rfl ta_3 rfl) rfl ?_
            refine vops_efE (vef_litF (es := List.map (PV.int .i64) [p0.Address]) ⟨rfl, rfl, trivial⟩ rfl rfl (nt_all rfl) te_52 ts_3 tz_3 rfl rfl (Nat.succ_pos _) (by decide) (lt_map (fun _ => .int _ _))) rfl ?_
            refine vops_efE (vef_callP rfl Try.call28 (F_sensor_in_ok h6 _)) rfl ?_
            refine vops_rd (rd_not rfl) rfl ?_
            refine vops_rd (rd_mvB rfl) rfl ?_
            refine vops_take rfl (congrArg PV.bool c7) ?_
            refine vops_rd (rd_fieldAddr rfl tf_24_2 ts_3 (by decide)) rfl ?_
            refine vops_take rfl (congrArg PV.bool c7) ?_
            refine vops_rd (rd_load1 rfl (getO_N rfl rfl) rfl ta_3 rfl) rfl ?_
            refine vops_take rfl (congrArg PV.bool c7) ?_
            refine vops_rd (rd_lss rfl rfl) rfl ?_
            refine vops_rd (rd_pickF (congrArg PV.bool c7) rfl) rfl ?_
            refine vops_rd (rd_mvB rfl) rfl ?_
            refine vops_skip rfl rfl (neT c8) rfl ?_
            refine vops_skip rfl rfl (neT c8) rfl ?_
            refine vops_skip rfl rfl (neT c8) rfl ?_
            refine vops_skip rfl rfl (neT c8) rfl ?_
            refine vops_skip rfl rfl (neT c8) rfl ?_
            refine vops_skip rfl rfl (neT c8) rfl ?_
            refine vops_skip rfl rfl (neT c8) rfl ?_
            refine vops_rd (rd_pickT (congrArg PV.bool c8) rfl) rfl ?_
            refine vops_rd (rd_asB rfl) rfl ?_
            refine vops_nil ?_
            obtain rfl := Option.some.inj hF
            refine onlyE ?_
            exact weak_sub ⟨rfl, rfl, trivial⟩
          · have hF := bifF c8 hF
            obtain ⟨x9, h10, hF⟩ := bnd hF
            refine vops_rd (rd_fieldAddr rfl tf_24_0 ts_3 (by decide)) rfl ?_
            refine vops_rd (rd_load1 rfl (getO_N rfl rfl) rfl ta_3 rfl) rfl ?_
            refine vops_efE (vef_litF (es := List.map (PV.int .i64) [p0.Address]) ⟨rfl, rfl, trivial⟩ rfl rfl (nt_all rfl) te_52 ts_3 tz_3 rfl rfl (Nat.succ_pos _) (by decide) (lt_map (fun _ => .int _ _))) rfl ?_
            refine vops_efE (vef_callP rfl Try.call28 (F_sensor_in_ok h6 _)) rfl ?_
            refine vops_rd (rd_not rfl) rfl ?_
            refine vops_rd (rd_mvB rfl) rfl ?_
            refine vops_take rfl (congrArg PV.bool c7) ?_
            refine vops_rd (rd_fieldAddr rfl tf_24_2 ts_3 (by decide)) rfl ?_
            refine vops_take rfl (congrArg PV.bool c7) ?_
            refine vops_rd (rd_load1 rfl (getO_N rfl rfl) rfl ta_3 rfl) rfl ?_
            refine vops_take rfl (congrArg PV.bool c7) ?_
            refine vops_rd (rd_lss rfl rfl) rfl ?_
            refine vops_rd (rd_pickF (congrArg PV.bool c7) rfl) rfl ?_
            refine vops_rd (rd_mvB rfl) rfl ?_
            refine vops_take rfl (congrArg PV.bool c8) ?_
            refine vops_rd (rd_fieldAddr rfl tf_24_3 ts_3 (by decide)) rfl ?_
            refine vops_take rfl (congrArg PV.bool c8) ?_
            refine vops_rd (rd_load1 rfl (getO_N rfl rfl) rfl ta_3 rfl) rfl ?_
            refine vops_take rfl (congrArg PV.bool c8) ?_
            refine vops_rd (rd_fieldAddr rfl tf_24_4 ts_3 (by decide)) rfl ?_
            refine vops_take rfl (congrArg PV.bool c8) ?_
            refine vops_rd (rd_load1 rfl (getO_N rfl rfl) rfl ta_3 rfl) rfl ?_
            refine vops_take rfl (congrArg PV.bool c8) ?_
            refine vops_efE (vef_litF (es := List.map (PV.int .i64) [p0.Offset, p0.Scale]) ⟨rfl, rfl, rfl, rfl, trivial⟩ rfl rfl (nt_all rfl) te_52 ts_3 tz_3 rfl rfl (Nat.succ_pos _) (by decide) (lt_map (fun _ => .int _ _))) rfl ?_
            refine vops_take rfl (congrArg PV.bool c8) ?_
            refine vops_efE (vef_callP rfl Try.call28 (F_sensor_in_ok h10 _)) rfl ?_
            refine vops_take rfl (congrArg PV.bool c8) ?_
            refine vops_rd (rd_not rfl) rfl ?_
            refine vops_rd (rd_pickF (congrArg PV.bool c8) rfl) rfl ?_
            refine vops_rd (rd_asB rfl) rfl ?_
            refine vops_nil ?_
            obtain rfl := Option.some.inj hF
            refine onlyE ?_
            exact weak_sub ⟨rfl, rfl, trivial⟩
      · rintro _ _ _ _ ⟨rfl, hw⟩
        refine ⟨_, _, _, hw, ?_⟩
        refine vwp_cond rfl (fun c11 => ?_) (fun c11 => ?_)
        · have hF := bifT c11 hF
          refine vwp_seq ?_
          refine vwp_region ?_
          refine vops_rd (rd_asI rfl) rfl ?_
          refine vops_nil ?_
          refine vwp_ret ?_
          obtain rfl := Option.some.inj hF
          refine fnR ?_
          exact weak_pick rfl [] (by decide) ⟨rn_low rfl (.int _ _), trivial⟩ trivial
        · have hF := bifF c11 hF
          refine vwp_seq ?_
          obtain ⟨o12, ho12, hF⟩ := bnd hF
          refine vwp_monoW (Q' := (fun o12 => OnlyE .normal (fun E' lw lc => Weak E' lw lc [(29, .bool o12)] low [])) o12) ?_ ?_
          · replace hF := ho12
            refine vwp_region ?_
            obtain ⟨x13, h14, hF⟩ := bnd hF
            rcases Bool.eq_false_or_eq_true (!x13) with c15 | c15
            · have hF := bifT c15 hF
              refine vops_rd (rd_fieldAddr rfl tf_24_5 ts_3 (by decide)) rfl ?_
              refine vops_rd (rd_load1 rfl (getO_N rfl rfl) rfl ta_3 rfl) rfl ?_
              refine vops_rd (rd_fieldAddr rfl tf_24_6 ts_3 (by decide)) rfl ?_
              refine vops_rd (rd_load1 rfl (getO_N rfl rfl) rfl ta_3 rfl) rfl ?_
              refine vops_efE (vef_litF (es := List.map (PV.int .i64) [p0.Error, p0.Drift]) ⟨rfl, rfl, rfl, rfl, trivial⟩ rfl rfl (nt_all rfl) te_52 ts_3 tz_3 rfl rfl (Nat.succ_pos _) (by decide) (lt_map (fun _ => .int _ _))) rfl ?_
              refine vops_efE (vef_callP rfl Try.call28 (F_sensor_in_ok h14 _)) rfl ?_
              refine vops_rd (rd_not rfl) rfl ?_
              refine vops_rd (rd_mvB rfl) rfl ?_
              refine vops_skip rfl rfl (neT c15) rfl ?_
              refine vops_skip rfl rfl (neT c15) rfl ?_
              refine vops_skip rfl rfl (neT c15) rfl ?_
              refine vops_skip rfl rfl (neT c15) rfl ?_
              refine vops_skip rfl rfl (neT c15) rfl ?_
              refine vops_rd (rd_pickT (congrArg PV.bool c15) rfl) rfl ?_
              refine vops_rd (rd_asB rfl) rfl ?_
              refine vops_nil ?_
              obtain rfl := Option.some.inj hF
              refine onlyE ?_
              exact weak_pick rfl [] (by decide) ⟨rn_low rfl (.bool _), trivial⟩ trivial
            · have hF := bifF c15 hF
              obtain ⟨x16, h17, hF⟩ := bnd hF
              refine vops_rd (rd_fieldAddr rfl tf_24_5 ts_3 (by decide)) rfl ?_
              refine vops_rd (rd_load1 rfl (getO_N rfl rfl) rfl ta_3 rfl) rfl ?_
              refine vops_rd (rd_fieldAddr rfl tf_24_6 ts_3 (by decide)) rfl ?_
              refine vops_rd (rd_load1 rfl (getO_N rfl rfl) rfl ta_3 rfl) rfl ?_
              refine vops_efE (vef_litF (es := List.map (PV.int .i64) [p0.Error, p0.Drift]) ⟨rfl, rfl, rfl, rfl, trivial⟩ rfl rfl (nt_all rfl) te_52 ts_3 tz_3 rfl rfl (Nat.succ_pos _) (by decide) (lt_map (fun _ => .int _ _))) rfl ?_
              refine vops_efE (vef_callP rfl Try.call28 (F_sensor_in_ok h14 _)) rfl ?_
              refine vops_rd (rd_not rfl) rfl ?_
              refine vops_rd (rd_mvB rfl) rfl ?_
              refine vops_take rfl (congrArg PV.bool c15) ?_
              refine vops_rd (rd_fieldAddr rfl tf_24_7 ts_3 (by decide)) rfl ?_
              refine vops_take rfl (congrArg PV.bool c15) ?_
              refine vops_rd (rd_load1 rfl (getO_N rfl rfl) rfl ta_3 rfl) rfl ?_
              refine vops_take rfl (congrArg PV.bool c15) ?_
              refine vops_efE (vef_litF (es := List.map (PV.int .i64) [p0.Life]) ⟨rfl, rfl, trivial⟩ rfl rfl (nt_all rfl) te_52 ts_3 tz_3 rfl rfl (Nat.succ_pos _) (by decide) (lt_map (fun _ => .int _ _))) rfl ?_
              refine vops_take rfl (congrArg PV.bool c15) ?_
              refine vops_efE (vef_callP rfl Try.call28 (F_sensor_in_ok h17 _)) rfl ?_
              refine vops_take rfl (congrArg PV.bool c15) ?_
              refine vops_rd (rd_not rfl) rfl ?_
              refine vops_rd (rd_pickF (congrArg PV.bool c15) rfl) rfl ?_
              refine vops_rd (rd_asB rfl) rfl ?_
              refine vops_nil ?_
              obtain rfl := Option.some.inj hF
              refine onlyE ?_
              exact weak_pick rfl [] (by decide) ⟨rn_low rfl (.bool _), trivial⟩ trivial
          · rintro _ _ _ _ ⟨rfl, hw⟩
            refine ⟨_, _, _, hw, ?_⟩
            refine vwp_cond rfl (fun c18 => ?_) (fun c18 => ?_)
            · have hF := bifT c18 hF
              refine vwp_seq ?_
              refine vwp_region ?_
              refine vops_rd (rd_asI rfl) rfl ?_
              refine vops_nil ?_
              refine vwp_ret ?_
              obtain rfl := Option.some.inj hF
              refine fnR ?_
              exact weak_sub ⟨rfl, trivial⟩
            · have hF := bifF c18 hF
              refine vwp_skip ?_
              refine vwp_seq ?_
              refine vwp_region ?_
              refine vops_rd (rd_asI rfl) rfl ?_
              refine vops_nil ?_
              refine vwp_ret ?_
              obtain rfl := Option.some.inj hF
              refine fnR ?_
              exact weak_sub ⟨rfl, trivial⟩
  · rintro _ _ _ _ ⟨he, hw⟩
    refine ⟨_, _, _, hw, ?_⟩
    exact bodyQ_pure he [.int .i64 r] ⟨rfl, trivial⟩ (.int _ _) ⟨rfl, rfl⟩

theorem F_ref05_in_ok {p0 : Int} {p1 : Int} {p2 : Int} {r : Bool} (hF : F_ref05_in p0 p1 p2 = some r) (low : List AObj) :
    VCalls Try.prog 29 [.int .i64 p0, .int .i64 p1, .int .i64 p2] low fun x low' => x = .bool r ∧ low' = low := by
  refine vcalls_of_body (nt := 15) (rs := [.tmp 6]) Try.func29 rfl rfl (Nat.le_of_ble_eq_true rfl) rfl ?_
  refine vwp_monoW (Q' := FnE (fun E' lw lc => Weak E' lw lc [(6, .bool r)] low [])) ?_ ?_
  · unfold F_ref05_in at hF
    refine vwp_seq ?_
    refine vwp_region ?_
    refine vops_rd (rd_asB rfl) rfl ?_
    refine vops_nil ?_
    refine vwp_seq ?_
    refine vwp_region ?_
    rcases Bool.eq_false_or_eq_true (decide (p1 ≤ p0)) with c1 | c1
    · have hF := bifT c1 hF
      refine vops_rd (rd_mvI rfl) rfl ?_
      refine vops_rd (rd_mvI rfl) rfl ?_
      refine vops_rd (rd_leq rfl rfl) rfl ?_
      refine vops_rd (rd_mvB rfl) rfl ?_
      refine vops_take rfl (congrArg PV.bool c1) ?_
      refine vops_rd (rd_mvI rfl) rfl ?_
      refine vops_take rfl (congrArg PV.bool c1) ?_
      refine vops_rd (rd_mvI rfl) rfl ?_
      refine vops_take rfl (congrArg PV.bool c1) ?_
      refine vops_rd (rd_leq rfl rfl) rfl ?_
      refine vops_rd (rd_pickT (congrArg PV.bool c1) rfl) rfl ?_
      refine vops_rd (rd_asB rfl) rfl ?_
      refine vops_nil ?_
      refine vwp_ret ?_
      obtain rfl := Option.some.inj hF
      refine fnR ?_
      exact weak_sub ⟨rfl, trivial⟩
    · have hF := bifF c1 hF
      refine vops_rd (rd_mvI rfl) rfl ?_
      refine vops_rd (rd_mvI rfl) rfl ?_
      refine vops_rd (rd_leq rfl rfl) rfl ?_
      refine vops_rd (rd_mvB rfl) rfl ?_
      refine vops_skip rfl rfl (neF c1) rfl ?_
      refine vops_skip rfl rfl (neF c1) rfl ?_
      refine vops_skip rfl rfl (neF c1) rfl ?_
      refine vops_rd (rd_pickF (congrArg PV.bool c1) rfl) rfl ?_
      refine vops_rd (rd_asB rfl) rfl ?_
      refine vops_nil ?_
      refine vwp_ret ?_
      obtain rfl := Option.some.inj hF
      refine fnR ?_
      exact weak_sub ⟨rfl, trivial⟩
  · rintro _ _ _ _ ⟨he, hw⟩
    refine ⟨_, _, _, hw, ?_⟩
    exact bodyQ_pure he [.bool r] ⟨rfl, trivial⟩ (.bool _) ⟨rfl, rfl⟩

theorem F_ref05_Check_ok {p0 : T_Sensor} {r : Int} (hF : F_ref05_Check p0 = some r) (low : List AObj) :
    VCalls Try.prog 12 [.agg [.int .i64 p0.Address, .int .i64 p0.Kind, .int .i64 p0.Target, .int .i64 p0.Offset, .int .i64 p0.Scale, .int .i64 p0.Error, .int .i64 p0.Drift, .int .i64 p0.Life]] low fun x low' => x = .int .i64 r ∧ low' = low := by
  refine vcalls_of_body (nt := 46) (rs := [.tmp 2]) Try.func12 rfl rfl (Nat.le_of_ble_eq_true rfl) rfl ?_
  refine vwp_monoW (Q' := FnE (fun E' lw lc => Weak E' lw lc [(2, .int .i64 r)] low [])) ?_ ?_
  · unfold F_ref05_Check at hF
    refine vwp_seq ?_
    refine vwp_region ?_
    refine vops_efE (vef_boxN rfl rfl (v := .agg [.int .i64 p0.Address, .int .i64 p0.Kind, .int .i64 p0.Target, .int .i64 p0.Offset, .int .i64 p0.Scale, .int .i64 p0.Error, .int .i64 p0.Drift, .int .i64 p0.Life]) rfl rfl (Nat.succ_pos _) rfl rfl) rfl ?_
    refine vops_rd (rd_asI rfl) rfl ?_
    refine vops_nil ?_
    refine vwp_seq ?_
    refine vwp_seq ?_
    refine vwp_region ?_
    obtain ⟨x1, h2, hF⟩ := bnd hF
    refine vops_rd (rd_fieldAddr rfl tf_24_1 ts_3 (by decide)) rfl ?_
    refine vops_rd (rd_load1 rfl (getO_N rfl rfl) rfl ta_3 rfl) rfl ?_
    refine vops_efE (vef_callP rfl Try.call29 (F_ref05_in_ok h2 _)) rfl ?_
    refine vops_rd (rd_not rfl) rfl ?_
    refine vops_nil ?_
    refine vwp_cond rfl (fun c3 => ?_) (fun c3 => ?_)
    · have hF := bifT c3 hF
      refine vwp_seq ?_
      refine vwp_region ?_
      refine vops_rd (rd_asI rfl) rfl ?_
      refine vops_nil ?_
      refine vwp_ret ?_
      obtain rfl := Option.some.inj hF
      refine fnR ?_
      exact weak_pick rfl [] (by decide) ⟨rn_low rfl (.int _ _), trivial⟩ trivial
    · have hF := bifF c3 hF
      refine vwp_skip ?_
      refine vwp_seq ?_
      refine vwp_seq ?_
      obtain ⟨o4, ho4, hF⟩ := bnd hF
      refine vwp_monoW (Q' := (fun o4 => OnlyE .normal (fun E' lw lc => Weak E' lw lc [(45, .bool o4)] low [])) o4) ?_ ?_
      · replace hF := ho4
        refine vwp_region ?_
        obtain ⟨x5, h6, hF⟩ := bnd hF
        rcases Bool.eq_false_or_eq_true (!x5) with c7 | c7
        · have hF := bifT c7 hF
          refine vops_rd (rd_fieldAddr rfl tf_24_0 ts_3 (by decide)) rfl ?_
          refine vops_rd (rd_load1 rfl (getO_N rfl rfl) rfl ta_3 rfl) rfl ?_
          refine vops_efE (vef_callP rfl Try.call29 (F_ref05_in_ok h6 _)) rfl ?_
          refine vops_rd (rd_not rfl) rfl ?_
          refine vops_rd (rd_mvB rfl) rfl ?_
          refine vops_skip rfl rfl (neT c7) rfl ?_
          refine vops_skip rfl rfl (neT c7) rfl ?_
          refine vops_skip rfl rfl (neT c7) rfl ?_
          refine vops_rd (rd_pickT (congrArg PV.bool c7) rfl) rfl ?_
          refine vops_rd (rd_mvB rfl) rfl ?_
          refine vops_skip rfl rfl (by decide) rfl ?_
          refine vops_skip rfl rfl (by decide) rfl ?_
          refine vops_skip rfl rfl (by decide) rfl ?_
          refine vops_skip rfl rfl (by decide) rfl ?_
          refine vops_rd (rd_pickT rfl rfl) rfl ?_
          refine vops_rd (rd_mvB rfl) rfl ?_
          refine vops_skip rfl rfl (by decide) rfl ?_
          refine vops_skip rfl rfl (by decide) rfl ?_
          refine vops_skip rfl rfl (by decide) rfl ?_
          refine vops_skip rfl rfl (by decide) rfl ?_
          refine vops_rd (rd_pickT rfl rfl) rfl ?_
          refine vops_rd (rd_mvB rfl) rfl ?_
          refine vops_skip rfl rfl (by decide) rfl ?_
          refine vops_skip rfl rfl (by decide) rfl ?_
          refine vops_skip rfl rfl (by decide) rfl ?_
          refine vops_skip rfl rfl (by decide) rfl ?_
          refine vops_rd (rd_pickT rfl rfl) rfl ?_
          refine vops_rd (rd_mvB rfl) rfl ?_
          refine vops_skip rfl rfl (by decide) rfl ?_
          refine vops_skip rfl rfl (by decide) rfl ?_
          refine vops_skip rfl rfl (by decide) rfl ?_
          refine vops_skip rfl rfl (by decide) rfl ?_
          refine vops_rd (rd_pickT rfl rfl) rfl ?_
          refine vops_rd (rd_mvB rfl) rfl ?_
          refine vops_skip rfl rfl (by decide) rfl ?_
          refine vops_skip rfl rfl (by decide) rfl ?_
          refine vops_skip rfl rfl (by decide) rfl ?_
          refine vops_skip rfl rfl (by decide) rfl ?_
          refine vops_rd (rd_pickT rfl rfl) rfl ?_
          refine vops_nil ?_
          obtain rfl := Option.some.inj hF
          refine onlyE ?_
          exact weak_pick rfl [] (by decide) ⟨rn_low rfl (.bool _), trivial⟩ trivial
        · have hF := bifF c7 hF
          rcases Bool.eq_false_or_eq_true (decide (p0.Target < 0)) with c8 | c8
          · have hF := bifT c8 hF
            refine vops_rd (rd_fieldAddr rfl tf_24_0 ts_3 (by decide)) rfl ?_
            refine vops_rd (rd_load1 rfl (getO_N rfl rfl) rfl ta_3 rfl) rfl ?_
            refine vops_efE (vef_callP rfl Try.call29 (F_ref05_in_ok h6 _)) rfl ?_
            refine vops_rd (rd_not rfl) rfl ?_
            refine vops_rd (rd_mvB rfl) rfl ?_
            refine vops_take rfl (congrArg PV.bool c7) ?_
            refine vops_rd (rd_fieldAddr rfl tf_24_2 ts_3 (by decide)) rfl ?_
            refine vops_take rfl (congrArg PV.bool c7) ?_
            refine vops_rd (rd_load1 rfl (getO_N rfl rfl) rfl ta_3 rfl) rfl ?_
            refine vops_take rfl (congrArg PV.bool c7) ?_
            refine vops_rd (rd_lss rfl rfl) rfl ?_
            refine vops_rd (rd_pickF (congrArg PV.bool c7) rfl) rfl ?_
            refine vops_rd (rd_mvB rfl) rfl ?_
            refine vops_skip rfl rfl (neT c8) rfl ?_
            refine vops_skip rfl rfl (neT c8) rfl ?_
            refine vops_skip rfl rfl (neT c8) rfl ?_
            refine vops_skip rfl rfl (neT c8) rfl ?_
            refine vops_rd (rd_pickT (congrArg PV.bool c8) rfl) rfl ?_
            refine vops_rd (rd_mvB rfl) rfl ?_
            refine vops_skip rfl rfl (by decide) rfl ?_
            refine vops_skip rfl rfl (by decide) rfl ?_
            refine vops_skip rfl rfl (by decide) rfl ?_
            refine vops_skip rfl rfl (by decide) rfl ?_
            refine vops_rd (rd_pickT rfl rfl) rfl ?_
            refine vops_rd (rd_mvB rfl) rfl ?_
            refine vops_skip rfl rfl (by decide) rfl ?_
            refine vops_skip rfl rfl (by decide) rfl ?_
            refine vops_skip rfl rfl (by decide) rfl ?_
            refine vops_skip rfl rfl (by decide) rfl ?_
            refine vops_rd (rd_pickT rfl rfl) rfl ?_
            refine vops_rd (rd_mvB rfl) rfl ?_
            refine vops_skip rfl rfl (by decide) rfl ?_
            refine vops_skip rfl rfl (by decide) rfl ?_
            refine vops_skip rfl rfl (by decide) rfl ?_
            refine vops_skip rfl rfl (by decide) rfl ?_
            refine vops_rd (rd_pickT rfl rfl) rfl ?_
            refine vops_rd (rd_mvB rfl) rfl ?_
            refine vops_skip rfl rfl (by decide) rfl ?_
            refine vops_skip rfl rfl (by decide) rfl ?_
            refine vops_skip rfl rfl (by decide) rfl ?_
            refine vops_skip rfl rfl (by decide) rfl ?_
            refine vops_rd (rd_pickT rfl rfl) rfl ?_
            refine vops_nil ?_
            obtain rfl := Option.some.inj hF
            refine onlyE ?_
            exact weak_pick rfl [] (by decide) ⟨rn_low rfl (.bool _), trivial⟩ trivial
          · have hF := bifF c8 hF
            obtain ⟨x9, h10, hF⟩ := bnd hF
            rcases Bool.eq_false_or_eq_true (!x9) with c11 | c11
            · have hF := bifT c11 hF
              refine vops_rd (rd_fieldAddr rfl tf_24_0 ts_3 (by decide)) rfl ?_
              refine vops_rd (rd_load1 rfl (getO_N rfl rfl) rfl ta_3 rfl) rfl ?_
              refine vops_efE (vef_callP rfl Try.call29 (F_ref05_in_ok h6 _)) rfl ?_
              refine vops_rd (rd_not rfl) rfl ?_
              refine vops_rd (rd_mvB rfl) rfl ?_
              refine vops_take rfl (congrArg PV.bool c7) ?_
              refine vops_rd (rd_fieldAddr rfl tf_24_2 ts_3 (by decide)) rfl ?_
              refine vops_take rfl (congrArg PV.bool c7) ?_
              refine vops_rd (rd_load1 rfl (getO_N rfl rfl) rfl ta_3 rfl) rfl ?_
              refine vops_take rfl (congrArg PV.bool c7) ?_
              refine vops_rd (rd_lss rfl rfl) rfl ?_
              refine vops_rd (rd_pickF (congrArg PV.bool c7) rfl) rfl ?_
              refine vops_rd (rd_mvB rfl) rfl ?_
              refine vops_take rfl (congrArg PV.bool c8) ?_
              refine vops_rd (rd_fieldAddr rfl tf_24_3 ts_3 (by decide)) rfl ?_
              refine vops_take rfl (congrArg PV.bool c8) ?_
              refine vops_rd (rd_load1 rfl (getO_N rfl rfl) rfl ta_3 rfl) rfl ?_
              refine vops_take rfl (congrArg PV.bool c8) ?_
              refine vops_efE (vef_callP rfl Try.call29 (F_ref05_in_ok h10 _)) rfl ?_
              refine vops_take rfl (congrArg PV.bool c8) ?_
              refine vops_rd (rd_not rfl) rfl ?_
              refine vops_rd (rd_pickF (congrArg PV.bool c8) rfl) rfl ?_
              refine vops_rd (rd_mvB rfl) rfl ?_
              refine vops_skip rfl rfl (neT c11) rfl ?_
              refine vops_skip rfl rfl (neT c11) rfl ?_
              refine vops_skip rfl rfl (neT c11) rfl ?_
              refine vops_skip rfl rfl (neT c11) rfl ?_
              refine vops_rd (rd_pickT (congrArg PV.bool c11) rfl) rfl ?_
              refine vops_rd (rd_mvB rfl) rfl ?_
              refine vops_skip rfl rfl (by decide) rfl ?_
              refine vops_skip rfl rfl (by decide) rfl ?_
              refine vops_skip rfl rfl (by decide) rfl ?_
              refine vops_skip rfl rfl (by decide) rfl ?_
              refine vops_rd (rd_pickT rfl rfl) rfl ?_
              refine vops_rd (rd_mvB rfl) rfl ?_
              refine vops_skip rfl rfl (by decide) rfl ?_
              refine vops_skip rfl rfl (by decide) rfl ?_
              refine vops_skip rfl rfl (by decide) rfl ?_
              refine vops_skip rfl rfl (by decide) rfl ?_
              refine vops_rd (rd_pickT rfl rfl) rfl ?_
              refine vops_rd (rd_mvB rfl) rfl ?_
              refine vops_skip rfl rfl (by decide) rfl ?_
              refine vops_skip rfl rfl (by decide) rfl ?_
              refine vops_skip rfl rfl (by decide) rfl ?_
              refine vops_skip rfl rfl (by decide) rfl ?_
              refine vops_rd (rd_pickT rfl rfl) rfl ?_
              refine vops_nil ?_
              obtain rfl := Option.some.inj hF
              refine onlyE ?_
              exact weak_pick rfl [] (by decide) ⟨rn_low rfl (.bool _), trivial⟩ trivial
            · have hF := bifF c11 hF
              obtain ⟨x12, h13, hF⟩ := bnd hF
              rcases Bool.eq_false_or_eq_true (!x12) with c14 | c14
              · have hF := bifT c14 hF
                refine vops_rd (rd_fieldAddr rfl tf_24_0 ts_3 (by decide)) rfl ?_
                refine vops_rd (rd_load1 rfl (getO_N rfl rfl) rfl ta_3 rfl) rfl ?_
                refine vops_efE (vef_callP rfl Try.call29 (F_ref05_in_ok h6 _)) rfl ?_
                refine vops_rd (rd_not rfl) rfl ?_
                refine vops_rd (rd_mvB rfl) rfl ?_
                refine vops_take rfl (congrArg PV.bool c7) ?_
                refine vops_rd (rd_fieldAddr rfl tf_24_2 ts_3 (by decide)) rfl ?_
                refine vops_take rfl (congrArg PV.bool c7) ?_
                refine vops_rd (rd_load1 rfl (getO_N rfl rfl) rfl ta_3 rfl) rfl ?_
                refine vops_take rfl (congrArg PV.bool c7) ?_
                refine vops_rd (rd_lss rfl rfl) rfl ?_
                refine vops_rd (rd_pickF (congrArg PV.bool c7) rfl) rfl ?_
                refine vops_rd (rd_mvB rfl) rfl ?_
                refine vops_take rfl (congrArg PV.bool c8) ?_
                refine vops_rd (rd_fieldAddr rfl tf_24_3 ts_3 (by decide)) rfl ?_
                refine vops_take rfl (congrArg PV.bool c8) ?_
                refine vops_rd (rd_load1 rfl (getO_N rfl rfl) rfl ta_3 rfl) rfl ?_
                refine vops_take rfl (congrArg PV.bool c8) ?_
                refine vops_efE (vef_callP rfl Try.call29 (F_ref05_in_ok h10 _)) rfl ?_
                refine vops_take rfl (congrArg PV.bool c8) ?_
                refine vops_rd (rd_not rfl) rfl ?_
                refine vops_rd (rd_pickF (congrArg PV.bool c8) rfl) rfl ?_
                refine vops_rd (rd_mvB rfl) rfl ?_
                refine vops_take rfl (congrArg PV.bool c11) ?_
                refine vops_rd (rd_fieldAddr rfl tf_24_4 ts_3 (by decide)) rfl ?_
                refine vops_take rfl (congrArg PV.bool c11) ?_
                refine vops_rd (rd_load1 rfl (getO_N rfl rfl) rfl ta_3 rfl) rfl ?_
                refine vops_take rfl (congrArg PV.bool c11) ?_
                refine vops_efE (vef_callP rfl Try.call29 (F_ref05_in_ok h13 _)) rfl ?_
                refine vops_take rfl (congrArg PV.bool c11) ?_
                refine vops_rd (rd_not rfl) rfl ?_
                refine vops_rd (rd_pickF (congrArg PV.bool c11) rfl) rfl ?_
                refine vops_rd (rd_mvB rfl) rfl ?_
                refine vops_skip rfl rfl (neT c14) rfl ?_
                refine vops_skip rfl rfl (neT c14) rfl ?_
                refine vops_skip rfl rfl (neT c14) rfl ?_
                refine vops_skip rfl rfl (neT c14) rfl ?_
                refine vops_rd (rd_pickT (congrArg PV.bool c14) rfl) rfl ?_
                refine vops_rd (rd_mvB rfl) rfl ?_
                refine vops_skip rfl rfl (by decide) rfl ?_
                refine vops_skip rfl rfl (by decide) rfl ?_
                refine vops_skip rfl rfl (by decide) rfl ?_
                refine vops_skip rfl rfl (by decide) rfl ?_
                refine vops_rd (rd_pickT rfl rfl) rfl ?_
                refine vops_rd (rd_mvB rfl) rfl ?_
                refine vops_skip rfl rfl (by decide) rfl ?_
                refine vops_skip rfl rfl (by decide) rfl ?_
                refine vops_skip rfl rfl (by decide) rfl ?_
                refine vops_skip rfl rfl (by decide) rfl ?_
                refine vops_rd (rd_pickT rfl rfl) rfl ?_
                refine vops_nil ?_
                obtain rfl := Option.some.inj hF
                refine onlyE ?_
                exact weak_pick rfl [] (by decide) ⟨rn_low rfl (.bool _), trivial⟩ trivial
              · have hF := bifF c14 hF
                obtain ⟨x15, h16, hF⟩ := bnd hF
                rcases Bool.eq_false_or_eq_true (!x15) with c17 | c17
                · have hF := bifT c17 hF
                  refine vops_rd (rd_fieldAddr rfl tf_24_0 ts_3 (by decide)) rfl ?_
                  refine vops_rd (rd_load1 rfl (getO_N rfl rfl) rfl ta_3 rfl) rfl ?_
                  refine vops_efE (vef_callP rfl Try.call29 (F_ref05_in_ok h6 _)) rfl ?_
                  refine vops_rd (rd_not rfl) rfl ?_
                  refine vops_rd (rd_mvB rfl) rfl ?_
                  refine vops_take rfl (congrArg PV.bool c7) ?_
                  refine vops_rd (rd_fieldAddr rfl tf_24_2 ts_3 (by decide)) rfl ?_
                  refine vops_take rfl (congrArg PV.bool c7) ?_
                  refine vops_rd (rd_load1 rfl (getO_N rfl rfl) rfl ta_3 rfl) rfl ?_
                  refine vops_take rfl (congrArg PV.bool c7) ?_
                  refine vops_rd (rd_lss rfl rfl) rfl ?_
                  refine vops_rd (rd_pickF (congrArg PV.bool c7) rfl) rfl ?_
                  refine vops_rd (rd_mvB rfl) rfl ?_
                  refine vops_take rfl (congrArg PV.bool c8) ?_
                  refine vops_rd (rd_fieldAddr rfl tf_24_3 ts_3 (by decide)) rfl ?_
                  refine vops_take rfl (congrArg PV.bool c8) ?_
                  refine vops_rd (rd_load1 rfl (getO_N rfl rfl) rfl ta_3 rfl) rfl ?_
                  refine vops_take rfl (congrArg PV.bool c8) ?_
                  refine vops_efE (vef_callP rfl Try.call29 (F_ref05_in_ok h10 _)) rfl ?_
                  refine vops_take rfl (congrArg PV.bool c8) ?_
                  refine vops_rd (rd_not rfl) rfl ?_
                  refine vops_rd (rd_pickF (congrArg PV.bool c8) rfl) rfl ?_
                  refine vops_rd (rd_mvB rfl) rfl ?_
                  refine vops_take rfl (congrArg PV.bool c11) ?_
                  refine vops_rd (rd_fieldAddr rfl tf_24_4 ts_3 (by decide)) rfl ?_
                  refine vops_take rfl (congrArg PV.bool c11) ?_
                  refine vops_rd (rd_load1 rfl (getO_N rfl rfl) rfl ta_3 rfl) rfl ?_
                  refine vops_take rfl (congrArg PV.bool c11) ?_
                  refine vops_efE (vef_callP rfl Try.call29 (F_ref05_in_ok h13 _)) rfl ?_
                  refine vops_take rfl (congrArg PV.bool c11) ?_
                  refine vops_rd (rd_not rfl) rfl ?_
                  refine vops_rd (rd_pickF (congrArg PV.bool c11) rfl) rfl ?_
                  refine vops_rd (rd_mvB rfl) rfl ?_
                  refine vops_take rfl (congrArg PV.bool c14) ?_
                  refine vops_rd (rd_fieldAddr rfl tf_24_5 ts_3 (by decide)) rfl ?_
                  refine vops_take rfl (congrArg PV.bool c14) ?_
                  refine vops_rd (rd_load1 rfl (getO_N rfl rfl) rfl ta_3 rfl) rfl ?_
                  refine vops_take rfl (congrArg PV.bool c14) ?_
                  refine vops_efE (vef_callP rfl Try.call29 (F_ref05_in_ok h16 _)) rfl ?_
                  refine vops_take rfl (congrArg PV.bool c14) ?_
                  refine vops_rd (rd_not rfl) rfl ?_
                  refine vops_rd (rd_pickF (congrArg PV.bool c14) rfl) rfl ?_
                  refine vops_rd (rd_mvB rfl) rfl ?_
                  refine vops_skip rfl rfl (neT c17) rfl ?_
                  refine vops_skip rfl rfl (neT c17) rfl ?_
                  refine vops_skip rfl rfl (neT c17) rfl ?_
                  refine vops_skip rfl rfl (neT c17) rfl ?_
                  refine vops_rd (rd_pickT (congrArg PV.bool c17) rfl) rfl ?_
                  refine vops_rd (rd_mvB rfl) rfl ?_
                  refine vops_skip rfl rfl (by decide) rfl ?_
                  refine vops_skip rfl rfl (by decide) rfl ?_
                  refine vops_skip rfl rfl (by decide) rfl ?_
                  refine vops_skip rfl rfl (by decide) rfl ?_
                  refine vops_rd (rd_pickT rfl rfl) rfl ?_
                  refine vops_nil ?_
                  obtain rfl := Option.some.inj hF
                  refine onlyE ?_
                  exact weak_pick rfl [] (by decide) ⟨rn_low rfl (.bool _), trivial⟩ trivial
                · have hF := bifF c17 hF
                  obtain ⟨x18, h19, hF⟩ := bnd hF
                  rcases Bool.eq_false_or_eq_true (!x18) with c20 | c20
                  · have hF := bifT c20 hF
                    refine vops_rd (rd_fieldAddr rfl tf_24_0 ts_3 (by decide)) rfl ?_
                    refine vops_rd (rd_load1 rfl (getO_N rfl rfl) rfl ta_3 rfl) rfl ?_
                    refine vops_efE (vef_callP rfl Try.call29 (F_ref05_in_ok h6 _)) rfl ?_
                    refine vops_rd (rd_not rfl) rfl ?_
                    refine vops_rd (rd_mvB rfl) rfl ?_
                    refine vops_take rfl (congrArg PV.bool c7) ?_
                    refine vops_rd (rd_fieldAddr rfl tf_24_2 ts_3 (by decide)) rfl ?_
                    refine vops_take rfl (congrArg PV.bool c7) ?_
                    refine vops_rd (rd_load1 rfl (getO_N rfl rfl) rfl ta_3 rfl) rfl ?_
                    refine vops_take rfl (congrArg PV.bool c7) ?_
                    refine vops_rd (rd_lss rfl rfl) rfl ?_
                    refine vops_rd (rd_pickF (congrArg PV.bool c7) rfl) rfl ?_
                    refine vops_rd (rd_mvB rfl) rfl ?_
                    refine vops_take rfl (congrArg PV.bool c8) ?_
                    refine vops_rd (rd_fieldAddr rfl tf_24_3 ts_3 (by decide)) rfl ?_
                    refine vops_take rfl (congrArg PV.bool c8) ?_
                    refine vops_rd (rd_load1 rfl (getO_N rfl rfl) rfl ta_3 rfl) rfl ?_
                    refine vops_take rfl (congrArg PV.bool c8) ?_
                    refine vops_efE (vef_callP rfl Try.call29 (F_ref05_in_ok h10 _)) rfl ?_
                    refine vops_take rfl (congrArg PV.bool c8) ?_
                    refine vops_rd (rd_not rfl) rfl ?_
                    refine vops_rd (rd_pickF (congrArg PV.bool c8) rfl) rfl ?_
                    refine vops_rd (rd_mvB rfl) rfl ?_
                    refine vops_take rfl (congrArg PV.bool c11) ?_
                    refine vops_rd (rd_fieldAddr rfl tf_24_4 ts_3 (by decide)) rfl ?_
                    refine vops_take rfl (congrArg PV.bool c11) ?_
                    refine vops_rd (rd_load1 rfl (getO_N rfl rfl) rfl ta_3 rfl) rfl ?_
                    refine vops_take rfl (congrArg PV.bool c11) ?_
                    refine vops_efE (vef_callP rfl Try.call29 (F_ref05_in_ok h13 _)) rfl ?_
                    refine vops_take rfl (congrArg PV.bool c11) ?_
                    refine vops_rd (rd_not rfl) rfl ?_
                    refine vops_rd (rd_pickF (congrArg PV.bool c11) rfl) rfl ?_
                    refine vops_rd (rd_mvB rfl) rfl ?_
                    refine vops_take rfl (congrArg PV.bool c14) ?_
                    refine vops_rd (rd_fieldAddr rfl tf_24_5 ts_3 (by decide)) rfl ?_
                    refine vops_take rfl (congrArg PV.bool c14) ?_
                    refine vops_rd (rd_load1 rfl (getO_N rfl rfl) rfl ta_3 rfl) rfl ?_
                    refine vops_take rfl (congrArg PV.bool c14) ?_
                    refine vops_efE (vef_callP rfl Try.call29 (F_ref05_in_ok h16 _)) rfl ?_
                    refine vops_take rfl (congrArg PV.bool c14) ?_
                    refine vops_rd (rd_not rfl) rfl ?_
                    refine vops_rd (rd_pickF (congrArg PV.bool c14) rfl) rfl ?_
                    refine vops_rd (rd_mvB rfl) rfl ?_
                    refine vops_take rfl (congrArg PV.bool c17) ?_
                    refine vops_rd (rd_fieldAddr rfl tf_24_6 ts_3 (by decide)) rfl ?_
                    refine vops_take rfl (congrArg PV.bool c17) ?_
                    refine vops_rd (rd_load1 rfl (getO_N rfl rfl) rfl ta_3 rfl) rfl ?_
                    refine vops_take rfl (congrArg PV.bool c17) ?_
                    refine vops_efE (vef_callP rfl Try.call29 (F_ref05_in_ok h19 _)) rfl ?_
                    refine vops_take rfl (congrArg PV.bool c17) ?_
                    refine vops_rd (rd_not rfl) rfl ?_
                    refine vops_rd (rd_pickF (congrArg PV.bool c17) rfl) rfl ?_
                    refine vops_rd (rd_mvB rfl) rfl ?_
                    refine vops_skip rfl rfl (neT c20) rfl ?_
                    refine vops_skip rfl rfl (neT c20) rfl ?_
                    refine vops_skip rfl rfl (neT c20) rfl ?_
                    refine vops_skip rfl rfl (neT c20) rfl ?_
                    refine vops_rd (rd_pickT (congrArg PV.bool c20) rfl) rfl ?_
                    refine vops_nil ?_
                    obtain rfl := Option.some.inj hF
                    refine onlyE ?_
                    exact weak_pick rfl [] (by decide) ⟨rn_low rfl (.bool _), trivial⟩ trivial
                  · have hF := bifF c20 hF
                    obtain ⟨x21, h22, hF⟩ := bnd hF
                    refine vops_rd (rd_fieldAddr rfl tf_24_0 ts_3 (by decide)) rfl ?_
                    refine vops_rd (rd_load1 rfl (getO_N rfl rfl) rfl ta_3 rfl) rfl ?_
                    refine vops_efE (vef_callP rfl Try.call29 (F_ref05_in_ok h6 _)) rfl ?_
                    refine vops_rd (rd_not rfl) rfl ?_
                    refine vops_rd (rd_mvB rfl) rfl ?_
                    refine vops_take rfl (congrArg PV.bool c7) ?_
                    refine vops_rd (rd_fieldAddr rfl tf_24_2 ts_3 (by decide)) rfl ?_
                    refine vops_take rfl (congrArg PV.bool c7) ?_
                    refine vops_rd (rd_load1 rfl (getO_N rfl rfl) rfl ta_3 rfl) rfl ?_
                    refine vops_take rfl (congrArg PV.bool c7) ?_
                    refine vops_rd (rd_lss rfl rfl) rfl ?_
                    refine vops_rd (rd_pickF (congrArg PV.bool c7) rfl) rfl ?_
                    refine vops_rd (rd_mvB rfl) rfl ?_
                    refine vops_take rfl (congrArg PV.bool c8) ?_
                    refine vops_rd (rd_fieldAddr rfl tf_24_3 ts_3 (by decide)) rfl ?_
                    refine vops_take rfl (congrArg PV.bool c8) ?_
                    refine vops_rd (rd_load1 rfl (getO_N rfl rfl) rfl ta_3 rfl) rfl ?_
                    refine vops_take rfl (congrArg PV.bool c8) ?_
                    refine vops_efE (vef_callP rfl Try.call29 (F_ref05_in_ok h10 _)) rfl ?_
                    refine vops_take rfl (congrArg PV.bool c8) ?_
                    refine vops_rd (rd_not rfl) rfl ?_
                    refine vops_rd (rd_pickF (congrArg PV.bool c8) rfl) rfl ?_
                    refine vops_rd (rd_mvB rfl) rfl ?_
                    refine vops_take rfl (congrArg PV.bool c11) ?_
                    refine vops_rd (rd_fieldAddr rfl tf_24_4 ts_3 (by decide)) rfl ?_
                    refine vops_take rfl (congrArg PV.bool c11) ?_
                    refine vops_rd (rd_load1 rfl (getO_N rfl rfl) rfl ta_3 rfl) rfl ?_
                    refine vops_take rfl (congrArg PV.bool c11) ?_
                    refine vops_efE (vef_callP rfl Try.call29 (F_ref05_in_ok h13 _)) rfl ?_
                    refine vops_take rfl (congrArg PV.bool c11) ?_
                    refine vops_rd (rd_not rfl) rfl ?_
                    refine vops_rd (rd_pickF (congrArg PV.bool c11) rfl) rfl ?_
                    refine vops_rd (rd_mvB rfl) rfl ?_
                    refine vops_take rfl (congrArg PV.bool c14) ?_
                    refine vops_rd (rd_fieldAddr rfl tf_24_5 ts_3 (by decide)) rfl ?_
                    refine vops_take rfl (congrArg PV.bool c14) ?_
                    refine vops_rd (rd_load1 rfl (getO_N rfl rfl) rfl ta_3 rfl) rfl ?_
                    refine vops_take rfl (congrArg PV.bool c14) ?_
                    refine vops_efE (vef_callP rfl Try.call29 (F_ref05_in_ok h16 _)) rfl ?_
                    refine vops_take rfl (congrArg PV.bool c14) ?_
                    refine vops_rd (rd_not rfl) rfl ?_
                    refine vops_rd (rd_pickF (congrArg PV.bool c14) rfl) rfl ?_
                    refine vops_rd (rd_mvB rfl) rfl ?_
                    refine vops_take rfl (congrArg PV.bool c17) ?_
                    refine vops_rd (rd_fieldAddr rfl tf_24_6 ts_3 (by decide)) rfl ?_
                    refine vops_take rfl (congrArg PV.bool c17) ?_
                    refine vops_rd (rd_load1 rfl (getO_N rfl rfl) rfl ta_3 rfl) rfl ?_
                    refine vops_take rfl (congrArg PV.bool c17) ?_
                    refine vops_efE (vef_callP rfl Try.call29 (F_ref05_in_ok h19 _)) rfl ?_
                    refine vops_take rfl (congrArg PV.bool c17) ?_
                    refine vops_rd (rd_not rfl) rfl ?_
                    refine vops_rd (rd_pickF (congrArg PV.bool c17) rfl) rfl ?_
                    refine vops_rd (rd_mvB rfl) rfl ?_
                    refine vops_take rfl (congrArg PV.bool c20) ?_
                    refine vops_rd (rd_fieldAddr rfl tf_24_7 ts_3 (by decide)) rfl ?_
                    refine vops_take rfl (congrArg PV.bool c20) ?_
                    refine vops_rd (rd_load1 rfl (getO_N rfl rfl) rfl ta_3 rfl) rfl ?_
                    refine vops_take rfl (congrArg PV.bool c20) ?_
                    refine vops_efE (vef_callP rfl Try.call29 (F_ref05_in_ok h22 _)) rfl ?_
                    refine vops_take rfl (congrArg PV.bool c20) ?_
                    refine vops_rd (rd_not rfl) rfl ?_
                    refine vops_rd (rd_pickF (congrArg PV.bool c20) rfl) rfl ?_
                    refine vops_nil ?_
                    obtain rfl := Option.some.inj hF
                    refine onlyE ?_
                    exact weak_pick rfl [] (by decide) ⟨rn_low rfl (.bool _), trivial⟩ trivial
      · rintro _ _ _ _ ⟨rfl, hw⟩
        refine ⟨_, _, _, hw, ?_⟩
        refine vwp_cond rfl (fun c23 => ?_) (fun c23 => ?_)
        · have hF := bifT c23 hF
          refine vwp_seq ?_
          refine vwp_region ?_
          refine vops_rd (rd_asI rfl) rfl ?_
          refine vops_nil ?_
          refine vwp_ret ?_
          obtain rfl := Option.some.inj hF
          refine fnR ?_
          exact weak_sub ⟨rfl, trivial⟩
        · have hF := bifF c23 hF
          refine vwp_skip ?_
          refine vwp_seq ?_
          refine vwp_region ?_
          refine vops_rd (rd_asI rfl) rfl ?_
          refine vops_nil ?_
          refine vwp_ret ?_
          obtain rfl := Option.some.inj hF
          refine fnR ?_
          exact weak_sub ⟨rfl, trivial⟩
  · rintro _ _ _ _ ⟨he, hw⟩
    refine ⟨_, _, _, hw, ?_⟩
    exact bodyQ_pure he [.int .i64 r] ⟨rfl, trivial⟩ (.int _ _) ⟨rfl, rfl⟩

theorem F_sensor_Nothing_ok  {r : T_Span} (hF : F_sensor_Nothing = some r) (low : List AObj) :
    VCalls Try.prog 25 [] low fun x low' => x = .agg [.int .i64 r.Low, .int .i64 r.High] ∧ low' = low := by
  refine vcalls_of_body (nt := 2) (rs := [.cell 0 33]) Try.func25 rfl rfl (Nat.le_of_ble_eq_true rfl) rfl ?_
  refine vwp_monoW (Q' := FnE (fun E' lw lc => Weak E' lw lc [(0, .ptr (low.length + 0) 0 0 0)] low [⟨33, 2, [.agg [.int .i64 r.Low, .int .i64 r.High]], 0⟩])) ?_ ?_
  · unfold F_sensor_Nothing at hF
    refine vwp_seq ?_
    refine vwp_region ?_
    refine vops_efE (vef_allocN rfl rfl tz_33 rfl rfl (Nat.succ_pos _) rfl) rfl ?_
    refine vops_nil ?_
    refine vwp_seq ?_
    refine vwp_region ?_
    refine vops_rd (rd_build (vs := [(0, .int .i64 (-1125899906842624)), (1, .int .i64 1125899906842624)]) (ds := [.int .i64 (-1125899906842624), .int .i64 1125899906842624]) tz_33 rfl rfl tp_33 ⟨rfl, rfl, rfl, rfl, trivial⟩ (nt_all2 rfl) rfl) rfl ?_
    refine vops_efE (vef_store (p := .agg [.int .i64 (-1125899906842624), .int .i64 1125899906842624]) (e' := .agg [.int .i64 (-1125899906842624), .int .i64 1125899906842624]) rfl (getO_N rfl rfl) rfl rfl ts_33 rfl (nt_ne rfl) rfl (Nat.le_of_ble_eq_true rfl) rfl (setO_N rfl rfl)) rfl ?_
    refine vops_nil ?_
    refine vwp_ret ?_
    obtain rfl := Option.some.inj hF
    refine fnR ?_
    exact weak_sub ⟨rfl, trivial⟩
  · rintro _ _ _ _ ⟨he, hw⟩
    refine ⟨_, _, _, hw, ?_⟩
    exact bodyQ_pure he [.agg [.int .i64 r.Low, .int .i64 r.High]] ⟨rd_loadN rfl (getO_N rfl rfl) rfl ta_33 ts_33 rfl rfl rfl, trivial⟩ ((lt_agg ⟨.int _ _, .int _ _, trivial⟩)) ⟨rfl, rfl⟩

theorem F_sensor_down_ok {p0 : Int} {r : Int} (hF : F_sensor_down p0 = some r) (low : List AObj) :
    VCalls Try.prog 35 [.int .i64 p0] low fun x low' => x = .int .i64 r ∧ low' = low := by
  refine vcalls_of_body (nt := 12) (rs := [.tmp 2]) Try.func35 rfl rfl (Nat.le_of_ble_eq_true rfl) rfl ?_
  refine vwp_monoW (Q' := FnE (fun E' lw lc => Weak E' lw lc [(2, .int .i64 r)] low [])) ?_ ?_
  · unfold F_sensor_down at hF
    refine vwp_seq ?_
    refine vwp_region ?_
    refine vops_rd (rd_asI rfl) rfl ?_
    refine vops_nil ?_
    refine vwp_seq ?_
    refine vwp_region ?_
    refine vops_rd (rd_mvI rfl) rfl ?_
    refine vops_rd (rd_quo rfl rfl (by decide) rfl) rfl ?_
    refine vops_rd (rd_asI rfl) rfl ?_
    refine vops_nil ?_
    refine vwp_seq ?_
    refine vwp_seq ?_
    refine vwp_region ?_
    refine vops_rd (rd_mvI rfl) rfl ?_
    refine vops_rd (rd_rem rfl rfl (by decide) rfl) rfl ?_
    refine vops_rd (rd_lss rfl rfl) rfl ?_
    refine vops_nil ?_
    obtain ⟨o1, ho1, hF⟩ := bnd hF
    refine vwp_monoW (Q' := (fun o1 => OnlyE .normal (fun E' lw lc => Weak E' lw lc [(3, .int .i64 o1)] low [])) o1) ?_ ?_
    · replace hF := ho1
      refine vwp_cond rfl (fun c2 => ?_) (fun c2 => ?_)
      · have hF := bifT c2 hF
        refine vwp_region ?_
        refine vops_rd (rd_mvI rfl) rfl ?_
        refine vops_rd (rd_sub rfl rfl rfl) rfl ?_
        refine vops_rd (rd_asI rfl) rfl ?_
        refine vops_nil ?_
        obtain rfl := Option.some.inj hF
        refine onlyE ?_
        exact weak_sub ⟨rfl, trivial⟩
      · have hF := bifF c2 hF
        refine vwp_skip ?_
        obtain rfl := Option.some.inj hF
        refine onlyE ?_
        exact weak_sub ⟨rfl, trivial⟩
    · rintro _ _ _ _ ⟨rfl, hw⟩
      refine ⟨_, _, _, hw, ?_⟩
      refine vwp_seq ?_
      refine vwp_region ?_
      refine vops_rd (rd_mvI rfl) rfl ?_
      refine vops_rd (rd_asI rfl) rfl ?_
      refine vops_nil ?_
      refine vwp_ret ?_
      obtain rfl := Option.some.inj hF
      refine fnR ?_
      exact weak_sub ⟨rfl, trivial⟩
  · rintro _ _ _ _ ⟨he, hw⟩
    refine ⟨_, _, _, hw, ?_⟩
    exact bodyQ_pure he [.int .i64 r] ⟨rfl, trivial⟩ (.int _ _) ⟨rfl, rfl⟩

theorem F_sensor_value_ok {p0 : T_Sensor} {p1 : Int} {r : T_Span} (hF : F_sensor_value p0 p1 = some r) (low : List AObj) :
    VCalls Try.prog 31 [.agg [.int .i64 p0.Address, .int .i64 p0.Kind, .int .i64 p0.Target, .int .i64 p0.Offset, .int .i64 p0.Scale, .int .i64 p0.Error, .int .i64 p0.Drift, .int .i64 p0.Life], .int .i64 p1] low fun x low' => x = .agg [.int .i64 r.Low, .int .i64 r.High] ∧ low' = low := by
  refine vcalls_of_body (nt := 71) (rs := [.cell 4 33]) Try.func31 rfl rfl (Nat.le_of_ble_eq_true rfl) rfl ?_
  refine vwp_monoW (Q' := FnE (fun E' lw lc => Weak E' lw lc [(4, .ptr (low.length + 0) 0 0 0)] low [⟨33, 2, [.agg [.int .i64 r.Low, .int .i64 r.High]], 0⟩])) ?_ ?_
  · unfold F_sensor_value at hF
    refine vwp_seq ?_
    refine vwp_region ?_
    refine vops_efE (vef_boxN rfl rfl (v := .agg [.int .i64 p0.Address, .int .i64 p0.Kind, .int .i64 p0.Target, .int .i64 p0.Offset, .int .i64 p0.Scale, .int .i64 p0.Error, .int .i64 p0.Drift, .int .i64 p0.Life]) rfl rfl (Nat.succ_pos _) rfl rfl) rfl ?_
    refine vops_efE (vef_allocN rfl rfl tz_33 rfl rfl (Nat.succ_pos _) rfl) rfl ?_
    refine vops_nil ?_
    refine vwp_seq ?_
    refine vwp_seq ?_
    obtain ⟨o1, ho1, hF⟩ := bnd hF
    refine vwp_monoW (Q' := (fun o1 => OnlyE .normal (fun E' lw lc => Weak E' lw lc [(1, .int .i64 p1), (2, .ptr (low.length + 0) 0 0 0), (4, .ptr (low.length + 1) 0 0 0), (13, .bool o1)] low [⟨24, 8, [.agg [.int .i64 p0.Address, .int .i64 p0.Kind, .int .i64 p0.Target, .int .i64 p0.Offset, .int .i64 p0.Scale, .int .i64 p0.Error, .int .i64 p0.Drift, .int .i64 p0.Life]], 0⟩, ⟨33, 2, [.agg [.int .i64 0, .int .i64 0]], 0⟩])) o1) ?_ ?_
    · replace hF := ho1
      refine vwp_region ?_
      rcases Bool.eq_false_or_eq_true (decide (p1 < 0)) with c2 | c2
      · have hF := bifT c2 hF
        refine vops_rd (rd_mvI rfl) rfl ?_
        refine vops_rd (rd_lss rfl rfl) rfl ?_
        refine vops_rd (rd_mvB rfl) rfl ?_
        refine vops_skip rfl rfl (neT c2) rfl ?_
        refine vops_skip rfl rfl (neT c2) rfl ?_
        refine vops_rd (rd_pickT (congrArg PV.bool c2) rfl) rfl ?_
        refine vops_nil ?_
        obtain rfl := Option.some.inj hF
        refine onlyE ?_
        exact weak_sub ⟨rfl, rfl, rfl, rfl, trivial⟩
      · have hF := bifF c2 hF
        refine vops_rd (rd_mvI rfl) rfl ?_
        refine vops_rd (rd_lss rfl rfl) rfl ?_
        refine vops_rd (rd_mvB rfl) rfl ?_
        refine vops_take rfl (congrArg PV.bool c2) ?_
        refine vops_rd (rd_mvI rfl) rfl ?_
        refine vops_take rfl (congrArg PV.bool c2) ?_
        refine vops_rd (rd_gtr rfl rfl) rfl ?_
        refine vops_rd (rd_pickF (congrArg PV.bool c2) rfl) rfl ?_
        refine vops_nil ?_
        obtain rfl := Option.some.inj hF
        refine onlyE ?_
        exact weak_sub ⟨rfl, rfl, rfl, rfl, trivial⟩
    · rintro _ _ _ _ ⟨rfl, hw⟩
      refine ⟨_, _, _, hw, ?_⟩
      refine vwp_cond rfl (fun c3 => ?_) (fun c3 => ?_)
      · have hF := bifT c3 hF
        refine vwp_seq ?_
        refine vwp_region ?_
        obtain ⟨x4, h5, hF⟩ := bnd hF
        refine vops_efE (vef_callP rfl Try.call25 (F_sensor_Nothing_ok h5 _)) rfl ?_
        refine vops_efE (vef_store (p := .agg [.int .i64 x4.Low, .int .i64 x4.High]) (e' := .agg [.int .i64 x4.Low, .int .i64 x4.High]) rfl (getO_N rfl rfl) rfl rfl ts_33 rfl (nt_ne rfl) rfl (Nat.le_of_ble_eq_true rfl) rfl (setO_N rfl rfl)) rfl ?_
        refine vops_nil ?_
        refine vwp_ret ?_
        obtain rfl := Option.some.inj hF
        refine fnR ?_
        exact weak_pick rfl [(1, 0)] (by decide) ⟨rn_ptr 0 1 rfl rfl, trivial⟩ ⟨⟨_, rfl, rfl, .same _ _ _ _ (ltObj_es ⟨(lt_agg ⟨.int _ _, .int _ _, trivial⟩), trivial⟩)⟩, trivial⟩
      · have hF := bifF c3 hF
        refine vwp_skip ?_
        refine vwp_seq ?_
        refine vwp_region ?_
        refine vops_rd (rd_asI rfl) rfl ?_
        refine vops_nil ?_
        refine vwp_seq ?_
        refine vwp_seq ?_
        refine vwp_region ?_
        refine vops_rd (rd_fieldAddr rfl tf_24_1 ts_3 (by decide)) rfl ?_
        refine vops_rd (rd_load1 rfl (getO_N rfl rfl) rfl ta_3 rfl) rfl ?_
        refine vops_nil ?_
        obtain ⟨o6, ho6, hF⟩ := bnd hF
        refine vwp_monoW (Q' := (fun o6 => OnlyE .normal (fun E' lw lc => Weak E' lw lc [(1, .int .i64 p1), (2, .ptr (low.length + 0) 0 0 0), (4, .ptr (low.length + 1) 0 0 0), (5, .int .i64 o6)] low [⟨24, 8, [.agg [.int .i64 p0.Address, .int .i64 p0.Kind, .int .i64 p0.Target, .int .i64 p0.Offset, .int .i64 p0.Scale, .int .i64 p0.Error, .int .i64 p0.Drift, .int .i64 p0.Life]], 0⟩, ⟨33, 2, [.agg [.int .i64 0, .int .i64 0]], 0⟩])) o6) ?_ ?_
        · replace hF := ho6
          refine vwp_block ?_
          refine vwp_seq ?_
          refine vwp_region ?_
          refine vops_rd (rd_eql rfl rfl) rfl ?_
          refine vops_rd (rd_asB rfl) rfl ?_
          refine vops_nil ?_
          refine vwp_cond rfl (fun c7 => ?_) (fun c7 => ?_)
          · have hF := bifT c7 hF
            refine vwp_region ?_
            refine vops_rd (rd_asI rfl) rfl ?_
            refine vops_nil ?_
            obtain rfl := Option.some.inj hF
            refine onlyE ?_
            exact weak_sub ⟨rfl, rfl, rfl, rfl, trivial⟩
          · have hF := bifF c7 hF
            refine vwp_seq ?_
            refine vwp_region ?_
            refine vops_rd (rd_eql rfl rfl) rfl ?_
            refine vops_rd (rd_asB rfl) rfl ?_
            refine vops_nil ?_
            refine vwp_cond rfl (fun c8 => ?_) (fun c8 => ?_)
            · have hF := bifT c8 hF
              refine vwp_region ?_
              refine vops_rd (rd_asI rfl) rfl ?_
              refine vops_nil ?_
              obtain rfl := Option.some.inj hF
              refine onlyE ?_
              exact weak_sub ⟨rfl, rfl, rfl, rfl, trivial⟩
            · have hF := bifF c8 hF
              refine vwp_seq ?_
              refine vwp_region ?_
              refine vops_rd (rd_eql rfl rfl) rfl ?_
              refine vops_rd (rd_asB rfl) rfl ?_
              refine vops_nil ?_
              refine vwp_cond rfl (fun c9 => ?_) (fun c9 => ?_)
              · have hF := bifT c9 hF
                refine vwp_region ?_
                refine vops_rd (rd_asI rfl) rfl ?_
                refine vops_nil ?_
                obtain rfl := Option.some.inj hF
                refine onlyE ?_
                exact weak_sub ⟨rfl, rfl, rfl, rfl, trivial⟩
              · have hF := bifF c9 hF
                refine vwp_skip ?_
                obtain rfl := Option.some.inj hF
                refine onlyE ?_
                exact weak_sub ⟨rfl, rfl, rfl, rfl, trivial⟩
        · rintro _ _ _ _ ⟨rfl, hw⟩
          refine ⟨_, _, _, hw, ?_⟩
          refine vwp_seq ?_
          refine vwp_seq ?_
          refine vwp_region ?_
          refine vops_rd (rd_mvI rfl) rfl ?_
          refine vops_rd (rd_geq rfl rfl) rfl ?_
          refine vops_nil ?_
          refine vwp_cond rfl (fun c10 => ?_) (fun c10 => ?_)
          · have hF := bifT c10 hF
            refine vwp_seq ?_
            refine vwp_seq ?_
            refine vwp_region ?_
            refine vops_rd (rd_mvI rfl) rfl ?_
            refine vops_rd (rd_mvI rfl) rfl ?_
            refine vops_rd (rd_gtr rfl rfl) rfl ?_
            refine vops_nil ?_
            refine vwp_cond rfl (fun c11 => ?_) (fun c11 => ?_)
            · have hF := bifT c11 hF
              refine vwp_seq ?_
              refine vwp_region ?_
              obtain ⟨x12, h13, hF⟩ := bnd hF
              refine vops_efE (vef_callP rfl Try.call25 (F_sensor_Nothing_ok h13 _)) rfl ?_
              refine vops_efE (vef_store (p := .agg [.int .i64 x12.Low, .int .i64 x12.High]) (e' := .agg [.int .i64 x12.Low, .int .i64 x12.High]) rfl (getO_N rfl rfl) rfl rfl ts_33 rfl (nt_ne rfl) rfl (Nat.le_of_ble_eq_true rfl) rfl (setO_N rfl rfl)) rfl ?_
              refine vops_nil ?_
              refine vwp_ret ?_
              obtain rfl := Option.some.inj hF
              refine fnR ?_
              exact weak_pick rfl [(1, 0)] (by decide) ⟨rn_ptr 0 1 rfl rfl, trivial⟩ ⟨⟨_, rfl, rfl, .same _ _ _ _ (ltObj_es ⟨(lt_agg ⟨.int _ _, .int _ _, trivial⟩), trivial⟩)⟩, trivial⟩
            · have hF := bifF c11 hF
              refine vwp_skip ?_
              refine vwp_seq ?_
              refine vwp_region ?_
              refine vops_rd (rd_mvI rfl) rfl ?_
              refine vops_rd (rd_mvI rfl) rfl ?_
              refine vops_rd (rd_build (vs := [(0, .int .i64 p1), (1, .int .i64 p1)]) (ds := [.int .i64 p1, .int .i64 p1]) tz_33 rfl rfl tp_33 ⟨rfl, rfl, rfl, rfl, trivial⟩ (nt_all2 rfl) rfl) rfl ?_
              refine vops_efE (vef_store (p := .agg [.int .i64 p1, .int .i64 p1]) (e' := .agg [.int .i64 p1, .int .i64 p1]) rfl (getO_N rfl rfl) rfl rfl ts_33 rfl (nt_ne rfl) rfl (Nat.le_of_ble_eq_true rfl) rfl (setO_N rfl rfl)) rfl ?_
              refine vops_nil ?_
              refine vwp_ret ?_
              obtain rfl := Option.some.inj hF
              refine fnR ?_
              exact weak_pick rfl [(1, 0)] (by decide) ⟨rn_ptr 0 1 rfl rfl, trivial⟩ ⟨⟨_, rfl, rfl, .same _ _ _ _ (ltObj_es ⟨(lt_agg ⟨.int _ _, .int _ _, trivial⟩), trivial⟩)⟩, trivial⟩
          · have hF := bifF c10 hF
            refine vwp_skip ?_
            refine vwp_seq ?_
            refine vwp_region ?_
            refine vops_rd (rd_fieldAddr rfl tf_24_4 ts_3 (by decide)) rfl ?_
            refine vops_rd (rd_load1 rfl (getO_N rfl rfl) rfl ta_3 rfl) rfl ?_
            refine vops_rd (rd_mvI rfl) rfl ?_
            refine vops_rd (rd_mul rfl rfl rfl) rfl ?_
            refine vops_rd (rd_asI rfl) rfl ?_
            refine vops_nil ?_
            refine vwp_seq ?_
            obtain ⟨x14, h15, hF⟩ := bnd hF
            obtain ⟨x16, h17, hF⟩ := bnd hF
            refine vwp_drawn [[], [0], [], [2], [0, 1, 2, 3], [], [5], [0, 1, 2, 3, 4, 5, 6], [], [8], [], [10], [2, 3, 10, 11], [2, 3, 8, 9, 10, 11, 12], [], [14], [2, 3, 8, 9, 10, 11, 12, 13, 14, 15], [0, 1, 2, 3, 4, 5, 6, 7, 8, 9, 10, 11, 12, 13, 14, 15, 16], [], [0, 1, 2, 3, 4, 5, 6, 7, 8, 9, 10, 11, 12, 13, 14, 15, 16, 17, 18]] [false, false, false, false, false, false, false, false, false, false, false, false, false, false, false, false, false, false, true, true] [(low, [⟨24, 8, [.agg [.int .i64 p0.Address, .int .i64 p0.Kind, .int .i64 p0.Target, .int .i64 p0.Offset, .int .i64 p0.Scale, .int .i64 p0.Error, .int .i64 p0.Drift, .int .i64 p0.Life]], 0⟩, ⟨33, 2, [.agg [.int .i64 0, .int .i64 0]], 0⟩]), (low, [⟨24, 8, [.agg [.int .i64 p0.Address, .int .i64 p0.Kind, .int .i64 p0.Target, .int .i64 p0.Offset, .int .i64 p0.Scale, .int .i64 p0.Error, .int .i64 p0.Drift, .int .i64 p0.Life]], 0⟩, ⟨33, 2, [.agg [.int .i64 0, .int .i64 0]], 0⟩, ⟨33, 2, [.agg [.int .i64 0, .int .i64 0]], 0⟩]), (low, [⟨24, 8, [.agg [.int .i64 p0.Address, .int .i64 p0.Kind, .int .i64 p0.Target, .int .i64 p0.Offset, .int .i64 p0.Scale, .int .i64 p0.Error, .int .i64 p0.Drift, .int .i64 p0.Life]], 0⟩, ⟨33, 2, [.agg [.int .i64 0, .int .i64 0]], 0⟩, ⟨33, 2, [.agg [.int .i64 (IntKind.i64.wrap ((IntKind.i64.wrap (p0.Offset + x14)) - p0.Error)), .int .i64 (IntKind.i64.wrap ((IntKind.i64.wrap (p0.Offset - x16)) + p0.Error))]], 0⟩])] mixed (by kernel_rfl) rfl (lenAll (all1 rfl (all1 rfl (all1 rfl all0)))) rfl (low, [⟨24, 8, [.agg [.int .i64 p0.Address, .int .i64 p0.Kind, .int .i64 p0.Target, .int .i64 p0.Offset, .int .i64 p0.Scale, .int .i64 p0.Error, .int .i64 p0.Drift, .int .i64 p0.Life]], 0⟩, ⟨33, 2, [.agg [.int .i64 0, .int .i64 0]], 0⟩, ⟨33, 2, [.agg [.int .i64 (IntKind.i64.wrap ((IntKind.i64.wrap (p0.Offset + x14)) - p0.Error)), .int .i64 (IntKind.i64.wrap ((IntKind.i64.wrap (p0.Offset - x16)) + p0.Error))]], 0⟩]) rfl rfl ?_
            refine dops_rdW [(low, [⟨24, 8, [.agg [.int .i64 p0.Address, .int .i64 p0.Kind, .int .i64 p0.Target, .int .i64 p0.Offset, .int .i64 p0.Scale, .int .i64 p0.Error, .int .i64 p0.Drift, .int .i64 p0.Life]], 0⟩, ⟨33, 2, [.agg [.int .i64 0, .int .i64 0]], 0⟩]), (low, [⟨24, 8, [.agg [.int .i64 p0.Address, .int .i64 p0.Kind, .int .i64 p0.Target, .int .i64 p0.Offset, .int .i64 p0.Scale, .int .i64 p0.Error, .int .i64 p0.Drift, .int .i64 p0.Life]], 0⟩, ⟨33, 2, [.agg [.int .i64 0, .int .i64 0]], 0⟩, ⟨33, 2, [.agg [.int .i64 0, .int .i64 0]], 0⟩])] rfl rfl (all1 (VRd.ntl (rd_fieldAddr rfl tf_24_3 ts_3 (by decide))) (all1 (VRd.ntl (rd_fieldAddr rfl tf_24_3 ts_3 (by decide))) all0)) ?_
            refine dops_rdW [(low, [⟨24, 8, [.agg [.int .i64 p0.Address, .int .i64 p0.Kind, .int .i64 p0.Target, .int .i64 p0.Offset, .int .i64 p0.Scale, .int .i64 p0.Error, .int .i64 p0.Drift, .int .i64 p0.Life]], 0⟩, ⟨33, 2, [.agg [.int .i64 0, .int .i64 0]], 0⟩]), (low, [⟨24, 8, [.agg [.int .i64 p0.Address, .int .i64 p0.Kind, .int .i64 p0.Target, .int .i64 p0.Offset, .int .i64 p0.Scale, .int .i64 p0.Error, .int .i64 p0.Drift, .int .i64 p0.Life]], 0⟩, ⟨33, 2, [.agg [.int .i64 0, .int .i64 0]], 0⟩, ⟨33, 2, [.agg [.int .i64 0, .int .i64 0]], 0⟩])] rfl rfl (all1 (VRd.ntl (rd_load1 rfl (getO_N rfl rfl) rfl ta_3 rfl)) (all1 (VRd.ntl (rd_load1 rfl (getO_N rfl rfl) rfl ta_3 rfl)) all0)) ?_
            refine dops_rdW [(low, [⟨24, 8, [.agg [.int .i64 p0.Address, .int .i64 p0.Kind, .int .i64 p0.Target, .int .i64 p0.Offset, .int .i64 p0.Scale, .int .i64 p0.Error, .int .i64 p0.Drift, .int .i64 p0.Life]], 0⟩, ⟨33, 2, [.agg [.int .i64 0, .int .i64 0]], 0⟩]), (low, [⟨24, 8, [.agg [.int .i64 p0.Address, .int .i64 p0.Kind, .int .i64 p0.Target, .int .i64 p0.Offset, .int .i64 p0.Scale, .int .i64 p0.Error, .int .i64 p0.Drift, .int .i64 p0.Life]], 0⟩, ⟨33, 2, [.agg [.int .i64 0, .int .i64 0]], 0⟩, ⟨33, 2, [.agg [.int .i64 0, .int .i64 0]], 0⟩])] rfl rfl (all1 (VRd.ntl (rd_mvI rfl)) (all1 (VRd.ntl (rd_mvI rfl)) all0)) ?_
            refine dops_rdW [(low, [⟨24, 8, [.agg [.int .i64 p0.Address, .int .i64 p0.Kind, .int .i64 p0.Target, .int .i64 p0.Offset, .int .i64 p0.Scale, .int .i64 p0.Error, .int .i64 p0.Drift, .int .i64 p0.Life]], 0⟩, ⟨33, 2, [.agg [.int .i64 0, .int .i64 0]], 0⟩]), (low, [⟨24, 8, [.agg [.int .i64 p0.Address, .int .i64 p0.Kind, .int .i64 p0.Target, .int .i64 p0.Offset, .int .i64 p0.Scale, .int .i64 p0.Error, .int .i64 p0.Drift, .int .i64 p0.Life]], 0⟩, ⟨33, 2, [.agg [.int .i64 0, .int .i64 0]], 0⟩, ⟨33, 2, [.agg [.int .i64 0, .int .i64 0]], 0⟩])] rfl rfl (all1 (nt_of (vef_callP rfl Try.call35 (F_sensor_down_ok h15 _))) (all1 (nt_of (vef_callP rfl Try.call35 (F_sensor_down_ok h15 _))) all0)) ?_
            refine dops_rdW [(low, [⟨24, 8, [.agg [.int .i64 p0.Address, .int .i64 p0.Kind, .int .i64 p0.Target, .int .i64 p0.Offset, .int .i64 p0.Scale, .int .i64 p0.Error, .int .i64 p0.Drift, .int .i64 p0.Life]], 0⟩, ⟨33, 2, [.agg [.int .i64 0, .int .i64 0]], 0⟩]), (low, [⟨24, 8, [.agg [.int .i64 p0.Address, .int .i64 p0.Kind, .int .i64 p0.Target, .int .i64 p0.Offset, .int .i64 p0.Scale, .int .i64 p0.Error, .int .i64 p0.Drift, .int .i64 p0.Life]], 0⟩, ⟨33, 2, [.agg [.int .i64 0, .int .i64 0]], 0⟩, ⟨33, 2, [.agg [.int .i64 0, .int .i64 0]], 0⟩])] rfl rfl (all1 (VRd.ntl (rd_add rfl rfl rfl)) (all1 (VRd.ntl (rd_add rfl rfl rfl)) all0)) ?_
            refine dops_rdW [(low, [⟨24, 8, [.agg [.int .i64 p0.Address, .int .i64 p0.Kind, .int .i64 p0.Target, .int .i64 p0.Offset, .int .i64 p0.Scale, .int .i64 p0.Error, .int .i64 p0.Drift, .int .i64 p0.Life]], 0⟩, ⟨33, 2, [.agg [.int .i64 0, .int .i64 0]], 0⟩]), (low, [⟨24, 8, [.agg [.int .i64 p0.Address, .int .i64 p0.Kind, .int .i64 p0.Target, .int .i64 p0.Offset, .int .i64 p0.Scale, .int .i64 p0.Error, .int .i64 p0.Drift, .int .i64 p0.Life]], 0⟩, ⟨33, 2, [.agg [.int .i64 0, .int .i64 0]], 0⟩, ⟨33, 2, [.agg [.int .i64 0, .int .i64 0]], 0⟩])] rfl rfl (all1 (VRd.ntl (rd_fieldAddr rfl tf_24_5 ts_3 (by decide))) (all1 (VRd.ntl (rd_fieldAddr rfl tf_24_5 ts_3 (by decide))) all0)) ?_
            refine dops_rdW [(low, [⟨24, 8, [.agg [.int .i64 p0.Address, .int .i64 p0.Kind, .int .i64 p0.Target, .int .i64 p0.Offset, .int .i64 p0.Scale, .int .i64 p0.Error, .int .i64 p0.Drift, .int .i64 p0.Life]], 0⟩, ⟨33, 2, [.agg [.int .i64 0, .int .i64 0]], 0⟩]), (low, [⟨24, 8, [.agg [.int .i64 p0.Address, .int .i64 p0.Kind, .int .i64 p0.Target, .int .i64 p0.Offset, .int .i64 p0.Scale, .int .i64 p0.Error, .int .i64 p0.Drift, .int .i64 p0.Life]], 0⟩, ⟨33, 2, [.agg [.int .i64 0, .int .i64 0]], 0⟩, ⟨33, 2, [.agg [.int .i64 0, .int .i64 0]], 0⟩])] rfl rfl (all1 (VRd.ntl (rd_load1 rfl (getO_N rfl rfl) rfl ta_3 rfl)) (all1 (VRd.ntl (rd_load1 rfl (getO_N rfl rfl) rfl ta_3 rfl)) all0)) ?_
            refine dops_rdW [(low, [⟨24, 8, [.agg [.int .i64 p0.Address, .int .i64 p0.Kind, .int .i64 p0.Target, .int .i64 p0.Offset, .int .i64 p0.Scale, .int .i64 p0.Error, .int .i64 p0.Drift, .int .i64 p0.Life]], 0⟩, ⟨33, 2, [.agg [.int .i64 0, .int .i64 0]], 0⟩]), (low, [⟨24, 8, [.agg [.int .i64 p0.Address, .int .i64 p0.Kind, .int .i64 p0.Target, .int .i64 p0.Offset, .int .i64 p0.Scale, .int .i64 p0.Error, .int .i64 p0.Drift, .int .i64 p0.Life]], 0⟩, ⟨33, 2, [.agg [.int .i64 0, .int .i64 0]], 0⟩, ⟨33, 2, [.agg [.int .i64 0, .int .i64 0]], 0⟩])] rfl rfl (all1 (VRd.ntl (rd_sub rfl rfl rfl)) (all1 (VRd.ntl (rd_sub rfl rfl rfl)) all0)) ?_
            refine dops_rdW [(low, [⟨24, 8, [.agg [.int .i64 p0.Address, .int .i64 p0.Kind, .int .i64 p0.Target, .int .i64 p0.Offset, .int .i64 p0.Scale, .int .i64 p0.Error, .int .i64 p0.Drift, .int .i64 p0.Life]], 0⟩, ⟨33, 2, [.agg [.int .i64 0, .int .i64 0]], 0⟩]), (low, [⟨24, 8, [.agg [.int .i64 p0.Address, .int .i64 p0.Kind, .int .i64 p0.Target, .int .i64 p0.Offset, .int .i64 p0.Scale, .int .i64 p0.Error, .int .i64 p0.Drift, .int .i64 p0.Life]], 0⟩, ⟨33, 2, [.agg [.int .i64 0, .int .i64 0]], 0⟩, ⟨33, 2, [.agg [.int .i64 0, .int .i64 0]], 0⟩])] rfl rfl (all1 (VRd.ntl (rd_fieldAddr rfl tf_24_3 ts_3 (by decide))) (all1 (VRd.ntl (rd_fieldAddr rfl tf_24_3 ts_3 (by decide))) all0)) ?_
            refine dops_rdW [(low, [⟨24, 8, [.agg [.int .i64 p0.Address, .int .i64 p0.Kind, .int .i64 p0.Target, .int .i64 p0.Offset, .int .i64 p0.Scale, .int .i64 p0.Error, .int .i64 p0.Drift, .int .i64 p0.Life]], 0⟩, ⟨33, 2, [.agg [.int .i64 0, .int .i64 0]], 0⟩]), (low, [⟨24, 8, [.agg [.int .i64 p0.Address, .int .i64 p0.Kind, .int .i64 p0.Target, .int .i64 p0.Offset, .int .i64 p0.Scale, .int .i64 p0.Error, .int .i64 p0.Drift, .int .i64 p0.Life]], 0⟩, ⟨33, 2, [.agg [.int .i64 0, .int .i64 0]], 0⟩, ⟨33, 2, [.agg [.int .i64 0, .int .i64 0]], 0⟩])] rfl rfl (all1 (VRd.ntl (rd_load1 rfl (getO_N rfl rfl) rfl ta_3 rfl)) (all1 (VRd.ntl (rd_load1 rfl (getO_N rfl rfl) rfl ta_3 rfl)) all0)) ?_
            refine dops_rdW [(low, [⟨24, 8, [.agg [.int .i64 p0.Address, .int .i64 p0.Kind, .int .i64 p0.Target, .int .i64 p0.Offset, .int .i64 p0.Scale, .int .i64 p0.Error, .int .i64 p0.Drift, .int .i64 p0.Life]], 0⟩, ⟨33, 2, [.agg [.int .i64 0, .int .i64 0]], 0⟩]), (low, [⟨24, 8, [.agg [.int .i64 p0.Address, .int .i64 p0.Kind, .int .i64 p0.Target, .int .i64 p0.Offset, .int .i64 p0.Scale, .int .i64 p0.Error, .int .i64 p0.Drift, .int .i64 p0.Life]], 0⟩, ⟨33, 2, [.agg [.int .i64 0, .int .i64 0]], 0⟩, ⟨33, 2, [.agg [.int .i64 0, .int .i64 0]], 0⟩])] rfl rfl (all1 (VRd.ntl (rd_mvI rfl)) (all1 (VRd.ntl (rd_mvI rfl)) all0)) ?_
            refine dops_rdW [(low, [⟨24, 8, [.agg [.int .i64 p0.Address, .int .i64 p0.Kind, .int .i64 p0.Target, .int .i64 p0.Offset, .int .i64 p0.Scale, .int .i64 p0.Error, .int .i64 p0.Drift, .int .i64 p0.Life]], 0⟩, ⟨33, 2, [.agg [.int .i64 0, .int .i64 0]], 0⟩]), (low, [⟨24, 8, [.agg [.int .i64 p0.Address, .int .i64 p0.Kind, .int .i64 p0.Target, .int .i64 p0.Offset, .int .i64 p0.Scale, .int .i64 p0.Error, .int .i64 p0.Drift, .int .i64 p0.Life]], 0⟩, ⟨33, 2, [.agg [.int .i64 0, .int .i64 0]], 0⟩, ⟨33, 2, [.agg [.int .i64 0, .int .i64 0]], 0⟩])] rfl rfl (all1 (VRd.ntl (rd_neg rfl rfl)) (all1 (VRd.ntl (rd_neg rfl rfl)) all0)) ?_
            refine dops_rdW [(low, [⟨24, 8, [.agg [.int .i64 p0.Address, .int .i64 p0.Kind, .int .i64 p0.Target, .int .i64 p0.Offset, .int .i64 p0.Scale, .int .i64 p0.Error, .int .i64 p0.Drift, .int .i64 p0.Life]], 0⟩, ⟨33, 2, [.agg [.int .i64 0, .int .i64 0]], 0⟩]), (low, [⟨24, 8, [.agg [.int .i64 p0.Address, .int .i64 p0.Kind, .int .i64 p0.Target, .int .i64 p0.Offset, .int .i64 p0.Scale, .int .i64 p0.Error, .int .i64 p0.Drift, .int .i64 p0.Life]], 0⟩, ⟨33, 2, [.agg [.int .i64 0, .int .i64 0]], 0⟩, ⟨33, 2, [.agg [.int .i64 0, .int .i64 0]], 0⟩])] rfl rfl (all1 (nt_of (vef_callP rfl Try.call35 (F_sensor_down_ok h17 _))) (all1 (nt_of (vef_callP rfl Try.call35 (F_sensor_down_ok h17 _))) all0)) ?_
            refine dops_rdW [(low, [⟨24, 8, [.agg [.int .i64 p0.Address, .int .i64 p0.Kind, .int .i64 p0.Target, .int .i64 p0.Offset, .int .i64 p0.Scale, .int .i64 p0.Error, .int .i64 p0.Drift, .int .i64 p0.Life]], 0⟩, ⟨33, 2, [.agg [.int .i64 0, .int .i64 0]], 0⟩]), (low, [⟨24, 8, [.agg [.int .i64 p0.Address, .int .i64 p0.Kind, .int .i64 p0.Target, .int .i64 p0.Offset, .int .i64 p0.Scale, .int .i64 p0.Error, .int .i64 p0.Drift, .int .i64 p0.Life]], 0⟩, ⟨33, 2, [.agg [.int .i64 0, .int .i64 0]], 0⟩, ⟨33, 2, [.agg [.int .i64 0, .int .i64 0]], 0⟩])] rfl rfl (all1 (VRd.ntl (rd_sub rfl rfl rfl)) (all1 (VRd.ntl (rd_sub rfl rfl rfl)) all0)) ?_
            refine dops_rdW [(low, [⟨24, 8, [.agg [.int .i64 p0.Address, .int .i64 p0.Kind, .int .i64 p0.Target, .int .i64 p0.Offset, .int .i64 p0.Scale, .int .i64 p0.Error, .int .i64 p0.Drift, .int .i64 p0.Life]], 0⟩, ⟨33, 2, [.agg [.int .i64 0, .int .i64 0]], 0⟩]), (low, [⟨24, 8, [.agg [.int .i64 p0.Address, .int .i64 p0.Kind, .int .i64 p0.Target, .int .i64 p0.Offset, .int .i64 p0.Scale, .int .i64 p0.Error, .int .i64 p0.Drift, .int .i64 p0.Life]], 0⟩, ⟨33, 2, [.agg [.int .i64 0, .int .i64 0]], 0⟩, ⟨33, 2, [.agg [.int .i64 0, .int .i64 0]], 0⟩])] rfl rfl (all1 (VRd.ntl (rd_fieldAddr rfl tf_24_5 ts_3 (by decide))) (all1 (VRd.ntl (rd_fieldAddr rfl tf_24_5 ts_3 (by decide))) all0)) ?_
            refine dops_rdW [(low, [⟨24, 8, [.agg [.int .i64 p0.Address, .int .i64 p0.Kind, .int .i64 p0.Target, .int .i64 p0.Offset, .int .i64 p0.Scale, .int .i64 p0.Error, .int .i64 p0.Drift, .int .i64 p0.Life]], 0⟩, ⟨33, 2, [.agg [.int .i64 0, .int .i64 0]], 0⟩]), (low, [⟨24, 8, [.agg [.int .i64 p0.Address, .int .i64 p0.Kind, .int .i64 p0.Target, .int .i64 p0.Offset, .int .i64 p0.Scale, .int .i64 p0.Error, .int .i64 p0.Drift, .int .i64 p0.Life]], 0⟩, ⟨33, 2, [.agg [.int .i64 0, .int .i64 0]], 0⟩, ⟨33, 2, [.agg [.int .i64 0, .int .i64 0]], 0⟩])] rfl rfl (all1 (VRd.ntl (rd_load1 rfl (getO_N rfl rfl) rfl ta_3 rfl)) (all1 (VRd.ntl (rd_load1 rfl (getO_N rfl rfl) rfl ta_3 rfl)) all0)) ?_
            refine dops_rdW [(low, [⟨24, 8, [.agg [.int .i64 p0.Address, .int .i64 p0.Kind, .int .i64 p0.Target, .int .i64 p0.Offset, .int .i64 p0.Scale, .int .i64 p0.Error, .int .i64 p0.Drift, .int .i64 p0.Life]], 0⟩, ⟨33, 2, [.agg [.int .i64 0, .int .i64 0]], 0⟩]), (low, [⟨24, 8, [.agg [.int .i64 p0.Address, .int .i64 p0.Kind, .int .i64 p0.Target, .int .i64 p0.Offset, .int .i64 p0.Scale, .int .i64 p0.Error, .int .i64 p0.Drift, .int .i64 p0.Life]], 0⟩, ⟨33, 2, [.agg [.int .i64 0, .int .i64 0]], 0⟩, ⟨33, 2, [.agg [.int .i64 0, .int .i64 0]], 0⟩])] rfl rfl (all1 (VRd.ntl (rd_add rfl rfl rfl)) (all1 (VRd.ntl (rd_add rfl rfl rfl)) all0)) ?_
            refine dops_rdW [(low, [⟨24, 8, [.agg [.int .i64 p0.Address, .int .i64 p0.Kind, .int .i64 p0.Target, .int .i64 p0.Offset, .int .i64 p0.Scale, .int .i64 p0.Error, .int .i64 p0.Drift, .int .i64 p0.Life]], 0⟩, ⟨33, 2, [.agg [.int .i64 0, .int .i64 0]], 0⟩]), (low, [⟨24, 8, [.agg [.int .i64 p0.Address, .int .i64 p0.Kind, .int .i64 p0.Target, .int .i64 p0.Offset, .int .i64 p0.Scale, .int .i64 p0.Error, .int .i64 p0.Drift, .int .i64 p0.Life]], 0⟩, ⟨33, 2, [.agg [.int .i64 0, .int .i64 0]], 0⟩, ⟨33, 2, [.agg [.int .i64 0, .int .i64 0]], 0⟩])] rfl rfl (all1 (VRd.ntl (rd_build (vs := [(0, .int .i64 (IntKind.i64.wrap ((IntKind.i64.wrap (p0.Offset + x14)) - p0.Error))), (1, .int .i64 (IntKind.i64.wrap ((IntKind.i64.wrap (p0.Offset - x16)) + p0.Error)))]) (ds := [.int .i64 (IntKind.i64.wrap ((IntKind.i64.wrap (p0.Offset + x14)) - p0.Error)), .int .i64 (IntKind.i64.wrap ((IntKind.i64.wrap (p0.Offset - x16)) + p0.Error))]) tz_33 rfl rfl tp_33 ⟨rfl, rfl, rfl, rfl, trivial⟩ (nt_all2 rfl) rfl)) (all1 (VRd.ntl (rd_build (vs := [(0, .int .i64 (IntKind.i64.wrap ((IntKind.i64.wrap (p0.Offset + x14)) - p0.Error))), (1, .int .i64 (IntKind.i64.wrap ((IntKind.i64.wrap (p0.Offset - x16)) + p0.Error)))]) (ds := [.int .i64 (IntKind.i64.wrap ((IntKind.i64.wrap (p0.Offset + x14)) - p0.Error)), .int .i64 (IntKind.i64.wrap ((IntKind.i64.wrap (p0.Offset - x16)) + p0.Error))]) tz_33 rfl rfl tp_33 ⟨rfl, rfl, rfl, rfl, trivial⟩ (nt_all2 rfl) rfl)) all0)) ?_
            refine dops_ef (M := (low, [⟨24, 8, [.agg [.int .i64 p0.Address, .int .i64 p0.Kind, .int .i64 p0.Target, .int .i64 p0.Offset, .int .i64 p0.Scale, .int .i64 p0.Error, .int .i64 p0.Drift, .int .i64 p0.Life]], 0⟩, ⟨33, 2, [.agg [.int .i64 0, .int .i64 0]], 0⟩])) (M' := (low, [⟨24, 8, [.agg [.int .i64 p0.Address, .int .i64 p0.Kind, .int .i64 p0.Target, .int .i64 p0.Offset, .int .i64 p0.Scale, .int .i64 p0.Error, .int .i64 p0.Drift, .int .i64 p0.Life]], 0⟩, ⟨33, 2, [.agg [.int .i64 0, .int .i64 0]], 0⟩, ⟨33, 2, [.agg [.int .i64 0, .int .i64 0]], 0⟩])) rfl rfl rfl (vef_allocN rfl rfl tz_33 rfl rfl (Nat.succ_pos _) rfl) ?_
            refine dops_ef (M := (low, [⟨24, 8, [.agg [.int .i64 p0.Address, .int .i64 p0.Kind, .int .i64 p0.Target, .int .i64 p0.Offset, .int .i64 p0.Scale, .int .i64 p0.Error, .int .i64 p0.Drift, .int .i64 p0.Life]], 0⟩, ⟨33, 2, [.agg [.int .i64 0, .int .i64 0]], 0⟩, ⟨33, 2, [.agg [.int .i64 0, .int .i64 0]], 0⟩])) (M' := (low, [⟨24, 8, [.agg [.int .i64 p0.Address, .int .i64 p0.Kind, .int .i64 p0.Target, .int .i64 p0.Offset, .int .i64 p0.Scale, .int .i64 p0.Error, .int .i64 p0.Drift, .int .i64 p0.Life]], 0⟩, ⟨33, 2, [.agg [.int .i64 0, .int .i64 0]], 0⟩, ⟨33, 2, [.agg [.int .i64 (IntKind.i64.wrap ((IntKind.i64.wrap (p0.Offset + x14)) - p0.Error)), .int .i64 (IntKind.i64.wrap ((IntKind.i64.wrap (p0.Offset - x16)) + p0.Error))]], 0⟩])) rfl rfl rfl (vef_store (p := .agg [.int .i64 (IntKind.i64.wrap ((IntKind.i64.wrap (p0.Offset + x14)) - p0.Error)), .int .i64 (IntKind.i64.wrap ((IntKind.i64.wrap (p0.Offset - x16)) + p0.Error))]) (e' := .agg [.int .i64 (IntKind.i64.wrap ((IntKind.i64.wrap (p0.Offset + x14)) - p0.Error)), .int .i64 (IntKind.i64.wrap ((IntKind.i64.wrap (p0.Offset - x16)) + p0.Error))]) rfl (getO_N rfl rfl) rfl rfl ts_33 rfl (nt_ne rfl) rfl (Nat.le_of_ble_eq_true rfl) rfl (setO_N rfl rfl)) ?_
            refine dops_nil ?_
            refine vwp_seq ?_
            refine vwp_seq ?_
            obtain ⟨o18, ho18, hF⟩ := bnd hF
            refine vwp_monoW (Q' := (fun o18 => OnlyE .normal (fun E' lw lc => Weak E' lw lc [(4, .ptr (low.length + 0) 0 0 0), (7, .ptr (low.length + 1) 0 0 0), (61, .bool o18)] low [⟨33, 2, [.agg [.int .i64 0, .int .i64 0]], 0⟩, ⟨33, 2, [.agg [.int .i64 (IntKind.i64.wrap ((IntKind.i64.wrap (p0.Offset + x14)) - p0.Error)), .int .i64 (IntKind.i64.wrap ((IntKind.i64.wrap (p0.Offset - x16)) + p0.Error))]], 0⟩])) o18) ?_ ?_
            · replace hF := ho18
              refine vwp_region ?_
              rcases Bool.eq_false_or_eq_true (decide (p0.Kind = 1)) with c19 | c19
              · have hF := bifT c19 hF
                refine vops_rd (rd_fieldAddr rfl tf_24_1 ts_3 (by decide)) rfl ?_
                refine vops_rd (rd_load1 rfl (getO_N rfl rfl) rfl ta_3 rfl) rfl ?_
                refine vops_rd (rd_eql rfl rfl) rfl ?_
                refine vops_rd (rd_mvB rfl) rfl ?_
                refine vops_skip rfl rfl (neT c19) rfl ?_
                refine vops_skip rfl rfl (neT c19) rfl ?_
                refine vops_skip rfl rfl (neT c19) rfl ?_
                refine vops_rd (rd_pickT (congrArg PV.bool c19) rfl) rfl ?_
                refine vops_nil ?_
                obtain rfl := Option.some.inj hF
                refine onlyE ?_
                exact weak_pick rfl [(1, 0), (2, 0)] (by decide) ⟨rn_ptr 0 1 rfl rfl, rn_ptr 1 2 rfl rfl, rn_low rfl (.bool _), trivial⟩ ⟨⟨_, rfl, rfl, .same _ _ _ _ (ltObj_es ⟨(lt_agg ⟨.int _ _, .int _ _, trivial⟩), trivial⟩)⟩, ⟨_, rfl, rfl, .same _ _ _ _ (ltObj_es ⟨(lt_agg ⟨.int _ _, .int _ _, trivial⟩), trivial⟩)⟩, trivial⟩
              · have hF := bifF c19 hF
                refine vops_rd (rd_fieldAddr rfl tf_24_1 ts_3 (by decide)) rfl ?_
                refine vops_rd (rd_load1 rfl (getO_N rfl rfl) rfl ta_3 rfl) rfl ?_
                refine vops_rd (rd_eql rfl rfl) rfl ?_
                refine vops_rd (rd_mvB rfl) rfl ?_
                refine vops_take rfl (congrArg PV.bool c19) ?_
                refine vops_rd (rd_fieldAddr rfl tf_24_1 ts_3 (by decide)) rfl ?_
                refine vops_take rfl (congrArg PV.bool c19) ?_
                refine vops_rd (rd_load1 rfl (getO_N rfl rfl) rfl ta_3 rfl) rfl ?_
                refine vops_take rfl (congrArg PV.bool c19) ?_
                refine vops_rd (rd_eql rfl rfl) rfl ?_
                refine vops_rd (rd_pickF (congrArg PV.bool c19) rfl) rfl ?_
                refine vops_nil ?_
                obtain rfl := Option.some.inj hF
                refine onlyE ?_
                exact weak_pick rfl [(1, 0), (2, 0)] (by decide) ⟨rn_ptr 0 1 rfl rfl, rn_ptr 1 2 rfl rfl, rn_low rfl (.bool _), trivial⟩ ⟨⟨_, rfl, rfl, .same _ _ _ _ (ltObj_es ⟨(lt_agg ⟨.int _ _, .int _ _, trivial⟩), trivial⟩)⟩, ⟨_, rfl, rfl, .same _ _ _ _ (ltObj_es ⟨(lt_agg ⟨.int _ _, .int _ _, trivial⟩), trivial⟩)⟩, trivial⟩
            · rintro _ _ _ _ ⟨rfl, hw⟩
              refine ⟨_, _, _, hw, ?_⟩
              obtain ⟨o20, ho20, hF⟩ := bnd hF
              refine vwp_monoW (Q' := (fun o20 => OnlyE .normal (fun E' lw lc => Weak E' lw lc [(4, .ptr (low.length + 0) 0 0 0), (7, .ptr (low.length + 1) 0 0 0)] low [⟨33, 2, [.agg [.int .i64 0, .int .i64 0]], 0⟩, ⟨33, 2, [.agg [.int .i64 o20.Low, .int .i64 o20.High]], 0⟩])) o20) ?_ ?_
              · replace hF := ho20
                refine vwp_cond rfl (fun c21 => ?_) (fun c21 => ?_)
                · have hF := bifT c21 hF
                  refine vwp_region ?_
                  refine vops_rd (rd_fieldAddr rfl tf_33_0 ts_3 (by decide)) rfl ?_
                  refine vops_rd (rd_load1 rfl (getO_N rfl rfl) rfl ta_3 rfl) rfl ?_
                  refine vops_rd (rd_max rfl rfl) rfl ?_
                  refine vops_rd (rd_fieldAddr rfl tf_33_1 ts_3 (by decide)) rfl ?_
                  refine vops_rd (rd_load1 rfl (getO_N rfl rfl) rfl ta_3 rfl) rfl ?_
                  refine vops_rd (rd_max rfl rfl) rfl ?_
                  refine vops_rd (rd_fieldAddr rfl tf_33_0 ts_3 (by decide)) rfl ?_
                  refine vops_efE (vef_store (p := .int .i64 (max (IntKind.i64.wrap ((IntKind.i64.wrap (p0.Offset + x14)) - p0.Error)) 0)) (e' := .agg [.int .i64 (max (IntKind.i64.wrap ((IntKind.i64.wrap (p0.Offset + x14)) - p0.Error)) 0), .int .i64 (IntKind.i64.wrap ((IntKind.i64.wrap (p0.Offset - x16)) + p0.Error))]) rfl (getO_N rfl rfl) rfl rfl ts_3 rfl (nt_ne rfl) rfl (Nat.le_of_ble_eq_true rfl) rfl (setO_N rfl rfl)) rfl ?_
                  refine vops_rd (rd_fieldAddr rfl tf_33_1 ts_3 (by decide)) rfl ?_
                  refine vops_efE (vef_store (p := .int .i64 (max (IntKind.i64.wrap ((IntKind.i64.wrap (p0.Offset - x16)) + p0.Error)) 0)) (e' := .agg [.int .i64 (max (IntKind.i64.wrap ((IntKind.i64.wrap (p0.Offset + x14)) - p0.Error)) 0), .int .i64 (max (IntKind.i64.wrap ((IntKind.i64.wrap (p0.Offset - x16)) + p0.Error)) 0)]) rfl (getO_N rfl rfl) rfl rfl ts_3 rfl (nt_ne rfl) rfl (Nat.le_of_ble_eq_true rfl) rfl (setO_N rfl rfl)) rfl ?_
                  refine vops_nil ?_
                  obtain rfl := Option.some.inj hF
                  refine onlyE ?_
                  exact weak_sub ⟨rfl, rfl, trivial⟩
                · have hF := bifF c21 hF
                  refine vwp_skip ?_
                  obtain rfl := Option.some.inj hF
                  refine onlyE ?_
                  exact weak_sub ⟨rfl, rfl, trivial⟩
              · rintro _ _ _ _ ⟨rfl, hw⟩
                refine ⟨_, _, _, hw, ?_⟩
                refine vwp_seq ?_
                refine vwp_region ?_
                refine vops_rd (rd_loadN (ds := [.int .i64 o20.Low, .int .i64 o20.High]) rfl (getO_N rfl rfl) rfl ta_33 ts_33 rfl rfl rfl) rfl ?_
                refine vops_efE (vef_store (p := .agg [.int .i64 o20.Low, .int .i64 o20.High]) (e' := .agg [.int .i64 o20.Low, .int .i64 o20.High]) rfl (getO_N rfl rfl) rfl rfl ts_33 rfl (nt_ne rfl) rfl (Nat.le_of_ble_eq_true rfl) rfl (setO_N rfl rfl)) rfl ?_
                refine vops_nil ?_
                refine vwp_ret ?_
                obtain rfl := Option.some.inj hF
                refine fnR ?_
                exact weak_pick rfl [(0, 0)] (by decide) ⟨rn_ptr 0 0 rfl rfl, trivial⟩ ⟨⟨_, rfl, rfl, .same _ _ _ _ (ltObj_es ⟨(lt_agg ⟨.int _ _, .int _ _, trivial⟩), trivial⟩)⟩, trivial⟩
  · rintro _ _ _ _ ⟨he, hw⟩
    refine ⟨_, _, _, hw, ?_⟩
    exact bodyQ_pure he [.agg [.int .i64 r.Low, .int .i64 r.High]] ⟨rd_loadN rfl (getO_N rfl rfl) rfl ta_33 ts_33 rfl rfl rfl, trivial⟩ ((lt_agg ⟨.int _ _, .int _ _, trivial⟩)) ⟨rfl, rfl⟩

theorem F_sensor_Decode_ok {p0 : List T_Sensor} {p1 : T_Frame} {p2 : Int} {r : T_Measure × Int} (hF : F_sensor_Decode p0 p1 p2 = some r) (low : List AObj) :
    VCalls Try.prog 22 [.vs 8 (List.map T_Sensor.enc p0), .agg [.int .i64 p1.Address, .int .i64 p1.Kind, .vs 1 (List.map (PV.int .u8) p1.Data)], .int .i64 p2] low fun x low' => x = .tup [.agg [.int .i64 r.1.Sensor, .int .i64 r.1.Time, .int .i64 r.1.Span.Low, .int .i64 r.1.Span.High], .int .i64 r.2] ∧ low' = low := by
  refine vcalls_of_body (nt := 85) (rs := [.cell 6 46, .tmp 7]) Try.func22 rfl rfl (Nat.le_of_ble_eq_true rfl) rfl ?_
  refine vwp_monoW (Q' := FnE (fun E' lw lc => Weak E' lw lc [(6, .ptr (low.length + 0) 0 0 0), (7, .int .i64 r.2)] low [⟨46, 4, [.agg [.int .i64 r.1.Sensor, .int .i64 r.1.Time, .int .i64 r.1.Span.Low, .int .i64 r.1.Span.High]], 0⟩])) ?_ ?_
  · unfold F_sensor_Decode at hF
    refine vwp_seq ?_
    refine vwp_region ?_
    refine vops_efE (vef_boxN rfl rfl (v := .agg [.int .i64 p1.Address, .int .i64 p1.Kind, .vs 1 (List.map (PV.int .u8) p1.Data)]) rfl rfl (Nat.succ_pos _) rfl rfl) rfl ?_
    refine vops_efE (vef_allocN rfl rfl tz_46 rfl rfl (Nat.succ_pos _) rfl) rfl ?_
    refine vops_rd (rd_asI rfl) rfl ?_
    refine vops_nil ?_
    refine vwp_seq ?_
    refine vwp_seq ?_
    obtain ⟨o1, ho1, hF⟩ := bnd hF
    refine vwp_monoW (Q' := (fun o1 => OnlyE .normal (fun E' lw lc => Weak E' lw lc [(0, .vs 8 (List.map T_Sensor.enc p0)), (2, .int .i64 p2), (4, .ptr (low.length + 0) 0 0 0), (6, .ptr (low.length + 1) 0 0 0), (16, .bool o1)] low [⟨37, 3, [.agg [.int .i64 p1.Address, .int .i64 p1.Kind, .vs 1 (List.map (PV.int .u8) p1.Data)]], 0⟩, ⟨46, 4, [.agg [.int .i64 0, .int .i64 0, .int .i64 0, .int .i64 0]], 0⟩])) o1) ?_ ?_
    · replace hF := ho1
      refine vwp_region ?_
      rcases Bool.eq_false_or_eq_true (decide (p2 < 0)) with c2 | c2
      · have hF := bifT c2 hF
        refine vops_rd (rd_mvI rfl) rfl ?_
        refine vops_rd (rd_lss rfl rfl) rfl ?_
        refine vops_rd (rd_mvB rfl) rfl ?_
        refine vops_skip rfl rfl (neT c2) rfl ?_
        refine vops_skip rfl rfl (neT c2) rfl ?_
        refine vops_rd (rd_pickT (congrArg PV.bool c2) rfl) rfl ?_
        refine vops_nil ?_
        obtain rfl := Option.some.inj hF
        refine onlyE ?_
        exact weak_sub ⟨rfl, rfl, rfl, rfl, rfl, trivial⟩
      · have hF := bifF c2 hF
        refine vops_rd (rd_mvI rfl) rfl ?_
        refine vops_rd (rd_lss rfl rfl) rfl ?_
        refine vops_rd (rd_mvB rfl) rfl ?_
        refine vops_take rfl (congrArg PV.bool c2) ?_
        refine vops_rd (rd_mvI rfl) rfl ?_
        refine vops_take rfl (congrArg PV.bool c2) ?_
        refine vops_rd (rd_gtr rfl rfl) rfl ?_
        refine vops_rd (rd_pickF (congrArg PV.bool c2) rfl) rfl ?_
        refine vops_nil ?_
        obtain rfl := Option.some.inj hF
        refine onlyE ?_
        exact weak_sub ⟨rfl, rfl, rfl, rfl, rfl, trivial⟩
    · rintro _ _ _ _ ⟨rfl, hw⟩
      refine ⟨_, _, _, hw, ?_⟩
      refine vwp_cond rfl (fun c3 => ?_) (fun c3 => ?_)
      · have hF := bifT c3 hF
        refine vwp_seq ?_
        refine vwp_region ?_
        refine vops_rd (rd_build (vs := []) (ds := [.int .i64 0, .int .i64 0, .int .i64 0, .int .i64 0]) tz_46 rfl rfl tp_46 trivial (nt_all2 rfl) rfl) rfl ?_
        refine vops_efE (vef_store (p := .agg [.int .i64 0, .int .i64 0, .int .i64 0, .int .i64 0]) (e' := .agg [.int .i64 0, .int .i64 0, .int .i64 0, .int .i64 0]) rfl (getO_N rfl rfl) rfl rfl ts_46 rfl (nt_ne rfl) rfl (Nat.le_of_ble_eq_true rfl) rfl (setO_N rfl rfl)) rfl ?_
        refine vops_rd (rd_asI rfl) rfl ?_
        refine vops_nil ?_
        refine vwp_ret ?_
        obtain rfl := Option.some.inj hF
        refine fnR ?_
        exact weak_pick rfl [(1, 0)] (by decide) ⟨rn_ptr 0 1 rfl rfl, rn_low rfl (.int _ _), trivial⟩ ⟨⟨_, rfl, rfl, .same _ _ _ _ (ltObj_es ⟨(lt_agg ⟨.int _ _, .int _ _, .int _ _, .int _ _, trivial⟩), trivial⟩)⟩, trivial⟩
      · have hF := bifF c3 hF
        refine vwp_skip ?_
        refine vwp_seq ?_
        refine vwp_region ?_
        refine vops_rd (rd_asI rfl) rfl ?_
        refine vops_nil ?_
        refine vwp_seq ?_
        refine vwp_seq ?_
        refine vwp_region ?_
        refine vops_rd (rd_mvV rfl) rfl ?_
        refine vops_rd (rd_to (rd_lenV rfl rfl te_31) (congrArg (fun n : Nat => PV.int .i64 (n : Int)) (List.length_map _))) rfl ?_
        refine vops_rd (rd_sub rfl rfl rfl) rfl ?_
        refine vops_rd (rd_asI rfl) rfl ?_
        refine vops_nil ?_
        refine vwp_block ?_
        obtain ⟨o5, ho5, hF⟩ := bnd hF
        refine vwp_monoW (vwp_loopC (F_sensor_Decode_L1 p0 p1) (fun s4 E' lw lc => Weak E' lw lc [(0, .vs 8 (List.map T_Sensor.enc p0)), (2, .int .i64 p2), (4, .ptr (low.length + 0) 0 0 0), (6, .ptr (low.length + 1) 0 0 0), (8, .int .i64 s4.1), (9, .int .i64 s4.2)] low [⟨37, 3, [.agg [.int .i64 p1.Address, .int .i64 p1.Kind, .vs 1 (List.map (PV.int .u8) p1.Data)]], 0⟩, ⟨46, 4, [.agg [.int .i64 0, .int .i64 0, .int .i64 0, .int .i64 0]], 0⟩]) (fun o5 => OnlyE (.exit 0) (fun E' lw lc => Weak E' lw lc [(0, .vs 8 (List.map T_Sensor.enc p0)), (2, .int .i64 p2), (4, .ptr (low.length + 0) 0 0 0), (6, .ptr (low.length + 1) 0 0 0), (8, .int .i64 o5)] low [⟨37, 3, [.agg [.int .i64 p1.Address, .int .i64 p1.Kind, .vs 1 (List.map (PV.int .u8) p1.Data)]], 0⟩, ⟨46, 4, [.agg [.int .i64 0, .int .i64 0, .int .i64 0, .int .i64 0]], 0⟩])) ho5 ?_ (by rintro _ _ _ _ ⟨h, _⟩ <;> cases h) ?_) ?_
        · exact weak_sub ⟨rfl, rfl, rfl, rfl, rfl, rfl, trivial⟩
        · rintro s4 os4 _ _ _ hF hw
          unfold F_sensor_Decode_L1 at hF
          refine vwp_weak hw ?_
          refine vwp_seq ?_
          refine vwp_seq ?_
          refine vwp_region ?_
          refine vops_rd (rd_mvI rfl) rfl ?_
          refine vops_rd (rd_geq rfl rfl) rfl ?_
          refine vops_nil ?_
          refine vwp_cond rfl (fun c6 => ?_) (fun c6 => ?_)
          · have hF := bifT c6 hF
            refine vwp_skip ?_
            refine vwp_seq ?_
            obtain ⟨o7, ho7, hF⟩ := bnd hF
            refine vwp_monoW (Q' := (fun o7 => OnlyE .normal (fun E' lw lc => Weak E' lw lc [(0, .vs 8 (List.map T_Sensor.enc p0)), (2, .int .i64 p2), (4, .ptr (low.length + 0) 0 0 0), (6, .ptr (low.length + 1) 0 0 0), (8, .int .i64 o7), (9, .int .i64 s4.2)] low [⟨37, 3, [.agg [.int .i64 p1.Address, .int .i64 p1.Kind, .vs 1 (List.map (PV.int .u8) p1.Data)]], 0⟩, ⟨46, 4, [.agg [.int .i64 0, .int .i64 0, .int .i64 0, .int .i64 0]], 0⟩])) o7) ?_ ?_
            · replace hF := ho7
              refine vwp_block ?_
              refine vwp_seq ?_
              obtain ⟨x8, h9, hF⟩ := bnd hF
              refine vwp_drawn [[], [], [0, 1], [0, 1, 2], [0, 1, 2, 3], [], [5], [0, 1, 2, 3, 4, 5, 6]] [false, false, false, false, false, false, false, false] [(low, [⟨37, 3, [.agg [.int .i64 p1.Address, .int .i64 p1.Kind, .vs 1 (List.map (PV.int .u8) p1.Data)]], 0⟩, ⟨46, 4, [.agg [.int .i64 0, .int .i64 0, .int .i64 0, .int .i64 0]], 0⟩])] mixed (by kernel_rfl) rfl (lenAll (all1 rfl all0)) rfl (low, [⟨37, 3, [.agg [.int .i64 p1.Address, .int .i64 p1.Kind, .vs 1 (List.map (PV.int .u8) p1.Data)]], 0⟩, ⟨46, 4, [.agg [.int .i64 0, .int .i64 0, .int .i64 0, .int .i64 0]], 0⟩]) rfl rfl ?_
              refine dops_rdW [(low, [⟨37, 3, [.agg [.int .i64 p1.Address, .int .i64 p1.Kind, .vs 1 (List.map (PV.int .u8) p1.Data)]], 0⟩, ⟨46, 4, [.agg [.int .i64 0, .int .i64 0, .int .i64 0, .int .i64 0]], 0⟩])] rfl rfl (all1 (VRd.ntl (rd_mvV rfl)) all0) ?_
              refine dops_rdW [(low, [⟨37, 3, [.agg [.int .i64 p1.Address, .int .i64 p1.Kind, .vs 1 (List.map (PV.int .u8) p1.Data)]], 0⟩, ⟨46, 4, [.agg [.int .i64 0, .int .i64 0, .int .i64 0, .int .i64 0]], 0⟩])] rfl rfl (all1 (VRd.ntl (rd_mvI rfl)) all0) ?_
              refine dops_rdW [(low, [⟨37, 3, [.agg [.int .i64 p1.Address, .int .i64 p1.Kind, .vs 1 (List.map (PV.int .u8) p1.Data)]], 0⟩, ⟨46, 4, [.agg [.int .i64 0, .int .i64 0, .int .i64 0, .int .i64 0]], 0⟩])] rfl rfl (all1 (VRd.ntl (rd_to (rd_ixV rfl rfl h9 te_31 ts_24) (v' := .vptr [.int .i64 x8.Address, .int .i64 x8.Kind, .int .i64 x8.Target, .int .i64 x8.Offset, .int .i64 x8.Scale, .int .i64 x8.Error, .int .i64 x8.Drift, .int .i64 x8.Life] 0) rfl)) all0) ?_
              refine dops_rdW [(low, [⟨37, 3, [.agg [.int .i64 p1.Address, .int .i64 p1.Kind, .vs 1 (List.map (PV.int .u8) p1.Data)]], 0⟩, ⟨46, 4, [.agg [.int .i64 0, .int .i64 0, .int .i64 0, .int .i64 0]], 0⟩])] rfl rfl (all1 (VRd.ntl (rd_fieldVaddr rfl tf_24_0 ts_3 (by decide))) all0) ?_
              refine dops_rdW [(low, [⟨37, 3, [.agg [.int .i64 p1.Address, .int .i64 p1.Kind, .vs 1 (List.map (PV.int .u8) p1.Data)]], 0⟩, ⟨46, 4, [.agg [.int .i64 0, .int .i64 0, .int .i64 0, .int .i64 0]], 0⟩])] rfl rfl (all1 (VRd.ntl (rd_loadV1 rfl ta_3 rfl)) all0) ?_
              refine dops_rdW [(low, [⟨37, 3, [.agg [.int .i64 p1.Address, .int .i64 p1.Kind, .vs 1 (List.map (PV.int .u8) p1.Data)]], 0⟩, ⟨46, 4, [.agg [.int .i64 0, .int .i64 0, .int .i64 0, .int .i64 0]], 0⟩])] rfl rfl (all1 (VRd.ntl (rd_fieldAddr rfl tf_37_0 ts_3 (by decide))) all0) ?_
              refine dops_rdW [(low, [⟨37, 3, [.agg [.int .i64 p1.Address, .int .i64 p1.Kind, .vs 1 (List.map (PV.int .u8) p1.Data)]], 0⟩, ⟨46, 4, [.agg [.int .i64 0, .int .i64 0, .int .i64 0, .int .i64 0]], 0⟩])] rfl rfl (all1 (VRd.ntl (rd_load1 rfl (getO_N rfl rfl) rfl ta_3 rfl)) all0) ?_
              refine dops_rdW [(low, [⟨37, 3, [.agg [.int .i64 p1.Address, .int .i64 p1.Kind, .vs 1 (List.map (PV.int .u8) p1.Data)]], 0⟩, ⟨46, 4, [.agg [.int .i64 0, .int .i64 0, .int .i64 0, .int .i64 0]], 0⟩])] rfl rfl (all1 (VRd.ntl (rd_eql rfl rfl)) all0) ?_
              refine dops_nil ?_
              refine vwp_cond rfl (fun c10 => ?_) (fun c10 => ?_)
              · have hF := bifT c10 hF
                refine vwp_region ?_
                refine vops_rd (rd_mvI rfl) rfl ?_
                refine vops_rd (rd_asI rfl) rfl ?_
                refine vops_nil ?_
                obtain rfl := Option.some.inj hF
                refine onlyE ?_
                exact weak_sub ⟨rfl, rfl, rfl, rfl, rfl, rfl, trivial⟩
              · have hF := bifF c10 hF
                refine vwp_skip ?_
                obtain rfl := Option.some.inj hF
                refine onlyE ?_
                exact weak_sub ⟨rfl, rfl, rfl, rfl, rfl, rfl, trivial⟩
            · rintro _ _ _ _ ⟨rfl, hw⟩
              refine ⟨_, _, _, hw, ?_⟩
              refine vwp_region ?_
              refine vops_rd (rd_mvI rfl) rfl ?_
              refine vops_rd (rd_sub rfl rfl rfl) rfl ?_
              refine vops_rd (rd_asI rfl) rfl ?_
              refine vops_nil ?_
              obtain rfl := Option.some.inj hF
              refine onlyE ?_
              exact weak_sub ⟨rfl, rfl, rfl, rfl, rfl, rfl, trivial⟩
          · have hF := bifF c6 hF
            refine vwp_exit ?_
            obtain rfl := Option.some.inj hF
            refine onlyE ?_
            exact weak_sub ⟨rfl, rfl, rfl, rfl, rfl, trivial⟩
        · rintro _ _ _ _ ⟨rfl, hw⟩
          refine ⟨_, _, _, hw, ?_⟩
          refine vwp_seq ?_
          refine vwp_seq ?_
          obtain ⟨o11, ho11, hF⟩ := bnd hF
          refine vwp_monoW (Q' := (fun o11 => OnlyE .normal (fun E' lw lc => Weak E' lw lc [(0, .vs 8 (List.map T_Sensor.enc p0)), (2, .int .i64 p2), (4, .ptr (low.length + 0) 0 0 0), (6, .ptr (low.length + 1) 0 0 0), (8, .int .i64 o5), (43, .bool o11)] low [⟨37, 3, [.agg [.int .i64 p1.Address, .int .i64 p1.Kind, .vs 1 (List.map (PV.int .u8) p1.Data)]], 0⟩, ⟨46, 4, [.agg [.int .i64 0, .int .i64 0, .int .i64 0, .int .i64 0]], 0⟩])) o11) ?_ ?_
          · replace hF := ho11
            refine vwp_region ?_
            rcases Bool.eq_false_or_eq_true (decide (o5 < 0)) with c12 | c12
            · have hF := bifT c12 hF
              refine vops_rd (rd_mvI rfl) rfl ?_
              refine vops_rd (rd_lss rfl rfl) rfl ?_
              refine vops_rd (rd_mvB rfl) rfl ?_
              refine vops_skip rfl rfl (neT c12) rfl ?_
              refine vops_skip rfl rfl (neT c12) rfl ?_
              refine vops_skip rfl rfl (neT c12) rfl ?_
              refine vops_skip rfl rfl (neT c12) rfl ?_
              refine vops_skip rfl rfl (neT c12) rfl ?_
              refine vops_skip rfl rfl (neT c12) rfl ?_
              refine vops_rd (rd_pickT (congrArg PV.bool c12) rfl) rfl ?_
              refine vops_nil ?_
              obtain rfl := Option.some.inj hF
              refine onlyE ?_
              exact weak_sub ⟨rfl, rfl, rfl, rfl, rfl, rfl, trivial⟩
            · have hF := bifF c12 hF
              obtain ⟨x13, h14, hF⟩ := bnd hF
              obtain ⟨x15, h16, hF⟩ := bnd hF
              refine vops_rd (rd_mvI rfl) rfl ?_
              refine vops_rd (rd_lss rfl rfl) rfl ?_
              refine vops_rd (rd_mvB rfl) rfl ?_
              refine vops_take rfl (congrArg PV.bool c12) ?_
              refine vops_rd (rd_mvV rfl) rfl ?_
              refine vops_take rfl (congrArg PV.bool c12) ?_
              refine vops_rd (rd_mvI rfl) rfl ?_
              refine vops_take rfl (congrArg PV.bool c12) ?_
              refine vops_rd (rd_to (rd_ixV rfl rfl h14 te_31 ts_24) (v' := .vptr [.int .i64 x13.Address, .int .i64 x13.Kind, .int .i64 x13.Target, .int .i64 x13.Offset, .int .i64 x13.Scale, .int .i64 x13.Error, .int .i64 x13.Drift, .int .i64 x13.Life] 0) rfl) rfl ?_
              refine vops_take rfl (congrArg PV.bool c12) ?_
              refine vops_rd (rd_loadVN (ds := [.int .i64 x13.Address, .int .i64 x13.Kind, .int .i64 x13.Target, .int .i64 x13.Offset, .int .i64 x13.Scale, .int .i64 x13.Error, .int .i64 x13.Drift, .int .i64 x13.Life]) rfl ta_24 ts_24 rfl rfl) rfl ?_
              refine vops_take rfl (congrArg PV.bool c12) ?_
              refine vops_efE (vef_callP rfl Try.call11 (F_sensor_Check_ok h16 _)) rfl ?_
              refine vops_take rfl (congrArg PV.bool c12) ?_
              refine vops_rd (rd_neq rfl rfl) rfl ?_
              refine vops_rd (rd_pickF (congrArg PV.bool c12) rfl) rfl ?_
              refine vops_nil ?_
              obtain rfl := Option.some.inj hF
              refine onlyE ?_
              exact weak_sub ⟨rfl, rfl, rfl, rfl, rfl, rfl, trivial⟩
          · rintro _ _ _ _ ⟨rfl, hw⟩
            refine ⟨_, _, _, hw, ?_⟩
            refine vwp_cond rfl (fun c17 => ?_) (fun c17 => ?_)
            · have hF := bifT c17 hF
              refine vwp_seq ?_
              refine vwp_region ?_
              refine vops_rd (rd_build (vs := []) (ds := [.int .i64 0, .int .i64 0, .int .i64 0, .int .i64 0]) tz_46 rfl rfl tp_46 trivial (nt_all2 rfl) rfl) rfl ?_
              refine vops_efE (vef_store (p := .agg [.int .i64 0, .int .i64 0, .int .i64 0, .int .i64 0]) (e' := .agg [.int .i64 0, .int .i64 0, .int .i64 0, .int .i64 0]) rfl (getO_N rfl rfl) rfl rfl ts_46 rfl (nt_ne rfl) rfl (Nat.le_of_ble_eq_true rfl) rfl (setO_N rfl rfl)) rfl ?_
              refine vops_rd (rd_asI rfl) rfl ?_
              refine vops_nil ?_
              refine vwp_ret ?_
              obtain rfl := Option.some.inj hF
              refine fnR ?_
              exact weak_pick rfl [(1, 0)] (by decide) ⟨rn_ptr 0 1 rfl rfl, rn_low rfl (.int _ _), trivial⟩ ⟨⟨_, rfl, rfl, .same _ _ _ _ (ltObj_es ⟨(lt_agg ⟨.int _ _, .int _ _, .int _ _, .int _ _, trivial⟩), trivial⟩)⟩, trivial⟩
            · have hF := bifF c17 hF
              refine vwp_skip ?_
              refine vwp_seq ?_
              refine vwp_region ?_
              obtain ⟨x18, h19, hF⟩ := bnd hF
              refine vops_rd (rd_mvI rfl) rfl ?_
              refine vops_rd (rd_mvI rfl) rfl ?_
              refine vops_efE (vef_callP rfl Try.call25 (F_sensor_Nothing_ok h19 _)) rfl ?_
              refine vops_rd (rd_build (vs := [(0, .int .i64 o5), (1, .int .i64 p2), (2, .agg [.int .i64 x18.Low, .int .i64 x18.High])]) (ds := [.int .i64 o5, .int .i64 p2, .int .i64 x18.Low, .int .i64 x18.High]) tz_46 rfl rfl tp_46 ⟨rfl, rfl, rfl, rfl, rfl, rfl, trivial⟩ (nt_all2 rfl) rfl) rfl ?_
              refine vops_efE (vef_allocN rfl rfl tz_46 rfl rfl (Nat.succ_pos _) rfl) rfl ?_
              refine vops_efE (vef_store (p := .agg [.int .i64 o5, .int .i64 p2, .int .i64 x18.Low, .int .i64 x18.High]) (e' := .agg [.int .i64 o5, .int .i64 p2, .int .i64 x18.Low, .int .i64 x18.High]) rfl (getO_N rfl rfl) rfl rfl ts_46 rfl (nt_ne rfl) rfl (Nat.le_of_ble_eq_true rfl) rfl (setO_N rfl rfl)) rfl ?_
              refine vops_nil ?_
              refine vwp_seq ?_
              refine vwp_seq ?_
              refine vwp_region ?_
              refine vops_rd (rd_fieldAddr rfl tf_37_1 ts_3 (by decide)) rfl ?_
              refine vops_rd (rd_load1 rfl (getO_N rfl rfl) rfl ta_3 rfl) rfl ?_
              refine vops_nil ?_
              obtain ⟨o20, ho20, hF⟩ := bnd hF
              refine vwp_monoW (Q' := Sum.elim (fun j21 => OnlyE .normal (fun E' lw lc => Weak E' lw lc [(6, .ptr (low.length + 0) 0 0 0), (10, .ptr (low.length + 1) 0 0 0)] low [⟨46, 4, [.agg [.int .i64 0, .int .i64 0, .int .i64 0, .int .i64 0]], 0⟩, ⟨46, 4, [.agg [.int .i64 j21.Sensor, .int .i64 j21.Time, .int .i64 j21.Span.Low, .int .i64 j21.Span.High]], 0⟩])) (fun j22 => OnlyE .ret (fun E' lw lc => Weak E' lw lc [(6, .ptr (low.length + 0) 0 0 0), (7, .int .i64 j22)] low [⟨46, 4, [.agg [.int .i64 0, .int .i64 0, .int .i64 0, .int .i64 0]], 0⟩])) o20) ?_ ?_
              · replace hF := ho20
                refine vwp_block ?_
                refine vwp_seq ?_
                refine vwp_region ?_
                refine vops_rd (rd_eql rfl rfl) rfl ?_
                refine vops_rd (rd_asB rfl) rfl ?_
                refine vops_nil ?_
                refine vwp_cond rfl (fun c23 => ?_) (fun c23 => ?_)
                · have hF := bifT c23 hF
                  refine vwp_seq ?_
                  refine vwp_seq ?_
                  refine vwp_region ?_
                  refine vops_rd (rd_fieldAddr rfl tf_37_2 ts_22 (by decide)) rfl ?_
                  refine vops_rd (rd_load1 rfl (getO_N rfl rfl) rfl ta_22 rfl) rfl ?_
                  refine vops_rd (rd_to (rd_lenV rfl rfl te_22) (congrArg (fun n : Nat => PV.int .i64 (n : Int)) (List.length_map _))) rfl ?_
                  refine vops_rd (rd_neq rfl rfl) rfl ?_
                  refine vops_nil ?_
                  refine vwp_cond rfl (fun c24 => ?_) (fun c24 => ?_)
                  · have hF := bifT c24 hF
                    refine vwp_seq ?_
                    refine vwp_region ?_
                    refine vops_rd (rd_build (vs := []) (ds := [.int .i64 0, .int .i64 0, .int .i64 0, .int .i64 0]) tz_46 rfl rfl tp_46 trivial (nt_all2 rfl) rfl) rfl ?_
                    refine vops_efE (vef_store (p := .agg [.int .i64 0, .int .i64 0, .int .i64 0, .int .i64 0]) (e' := .agg [.int .i64 0, .int .i64 0, .int .i64 0, .int .i64 0]) rfl (getO_N rfl rfl) rfl rfl ts_46 rfl (nt_ne rfl) rfl (Nat.le_of_ble_eq_true rfl) rfl (setO_N rfl rfl)) rfl ?_
                    refine vops_rd (rd_asI rfl) rfl ?_
                    refine vops_nil ?_
                    refine vwp_ret ?_
                    obtain rfl := Option.some.inj hF
                    refine onlyE ?_
                    exact weak_pick rfl [(1, 0)] (by decide) ⟨rn_ptr 0 1 rfl rfl, rn_low rfl (.int _ _), trivial⟩ ⟨⟨_, rfl, rfl, .same _ _ _ _ (ltObj_es ⟨(lt_agg ⟨.int _ _, .int _ _, .int _ _, .int _ _, trivial⟩), trivial⟩)⟩, trivial⟩
                  · have hF := bifF c24 hF
                    refine vwp_skip ?_
                    obtain ⟨x25, h26, hF⟩ := bnd hF
                    obtain ⟨x27, h28, hF⟩ := bnd hF
                    obtain ⟨x29, h30, hF⟩ := bnd hF
                    obtain ⟨x31, h32, hF⟩ := bnd hF
                    refine vwp_drawn [[], [], [0, 1], [0, 1, 2], [], [4], [4, 5], [4, 5, 6], [4, 5, 6, 7], [4, 5, 6, 7, 8], [], [10], [10, 11], [10, 11, 12], [10, 11, 12, 13], [4, 5, 6, 7, 8, 9, 10, 11, 12, 13, 14], [0, 1, 2, 3, 4, 5, 6, 7, 8, 9, 10, 11, 12, 13, 14, 15], [0, 1, 2, 3, 4, 5, 6, 7, 8, 9, 10, 11, 12, 13, 14, 15, 16], [0, 1, 2, 3, 4, 5, 6, 7, 8, 9, 10, 11, 12, 13, 14, 15, 16, 17]] [false, false, false, false, false, false, false, false, false, false, false, false, false, false, false, false, false, false, true] [(low, [⟨37, 3, [.agg [.int .i64 p1.Address, .int .i64 p1.Kind, .vs 1 (List.map (PV.int .u8) p1.Data)]], 0⟩, ⟨46, 4, [.agg [.int .i64 0, .int .i64 0, .int .i64 0, .int .i64 0]], 0⟩, ⟨46, 4, [.agg [.int .i64 o5, .int .i64 p2, .int .i64 x18.Low, .int .i64 x18.High]], 0⟩]), (low, [⟨37, 3, [.agg [.int .i64 p1.Address, .int .i64 p1.Kind, .vs 1 (List.map (PV.int .u8) p1.Data)]], 0⟩, ⟨46, 4, [.agg [.int .i64 0, .int .i64 0, .int .i64 0, .int .i64 0]], 0⟩, ⟨46, 4, [.agg [.int .i64 o5, .int .i64 p2, .int .i64 x31.Low, .int .i64 x31.High]], 0⟩])] mixed (by kernel_rfl) rfl (lenAll (all1 rfl (all1 rfl all0))) rfl (low, [⟨37, 3, [.agg [.int .i64 p1.Address, .int .i64 p1.Kind, .vs 1 (List.map (PV.int .u8) p1.Data)]], 0⟩, ⟨46, 4, [.agg [.int .i64 0, .int .i64 0, .int .i64 0, .int .i64 0]], 0⟩, ⟨46, 4, [.agg [.int .i64 o5, .int .i64 p2, .int .i64 x31.Low, .int .i64 x31.High]], 0⟩]) rfl rfl ?_
                    refine dops_rdW [(low, [⟨37, 3, [.agg [.int .i64 p1.Address, .int .i64 p1.Kind, .vs 1 (List.map (PV.int .u8) p1.Data)]], 0⟩, ⟨46, 4, [.agg [.int .i64 0, .int .i64 0, .int .i64 0, .int .i64 0]], 0⟩, ⟨46, 4, [.agg [.int .i64 o5, .int .i64 p2, .int .i64 x18.Low, .int .i64 x18.High]], 0⟩])] rfl rfl (all1 (VRd.ntl (rd_mvV rfl)) all0) ?_
                    refine dops_rdW [(low, [⟨37, 3, [.agg [.int .i64 p1.Address, .int .i64 p1.Kind, .vs 1 (List.map (PV.int .u8) p1.Data)]], 0⟩, ⟨46, 4, [.agg [.int .i64 0, .int .i64 0, .int .i64 0, .int .i64 0]], 0⟩, ⟨46, 4, [.agg [.int .i64 o5, .int .i64 p2, .int .i64 x18.Low, .int .i64 x18.High]], 0⟩])] rfl rfl (all1 (VRd.ntl (rd_mvI rfl)) all0) ?_
                    refine dops_rdW [(low, [⟨37, 3, [.agg [.int .i64 p1.Address, .int .i64 p1.Kind, .vs 1 (List.map (PV.int .u8) p1.Data)]], 0⟩, ⟨46, 4, [.agg [.int .i64 0, .int .i64 0, .int .i64 0, .int .i64 0]], 0⟩, ⟨46, 4, [.agg [.int .i64 o5, .int .i64 p2, .int .i64 x18.Low, .int .i64 x18.High]], 0⟩])] rfl rfl (all1 (VRd.ntl (rd_to (rd_ixV rfl rfl h26 te_31 ts_24) (v' := .vptr [.int .i64 x25.Address, .int .i64 x25.Kind, .int .i64 x25.Target, .int .i64 x25.Offset, .int .i64 x25.Scale, .int .i64 x25.Error, .int .i64 x25.Drift, .int .i64 x25.Life] 0) rfl)) all0) ?_
                    refine dops_rdW [(low, [⟨37, 3, [.agg [.int .i64 p1.Address, .int .i64 p1.Kind, .vs 1 (List.map (PV.int .u8) p1.Data)]], 0⟩, ⟨46, 4, [.agg [.int .i64 0, .int .i64 0, .int .i64 0, .int .i64 0]], 0⟩, ⟨46, 4, [.agg [.int .i64 o5, .int .i64 p2, .int .i64 x18.Low, .int .i64 x18.High]], 0⟩])] rfl rfl (all1 (VRd.ntl (rd_loadVN (ds := [.int .i64 x25.Address, .int .i64 x25.Kind, .int .i64 x25.Target, .int .i64 x25.Offset, .int .i64 x25.Scale, .int .i64 x25.Error, .int .i64 x25.Drift, .int .i64 x25.Life]) rfl ta_24 ts_24 rfl rfl)) all0) ?_
                    refine dops_rdW [(low, [⟨37, 3, [.agg [.int .i64 p1.Address, .int .i64 p1.Kind, .vs 1 (List.map (PV.int .u8) p1.Data)]], 0⟩, ⟨46, 4, [.agg [.int .i64 0, .int .i64 0, .int .i64 0, .int .i64 0]], 0⟩, ⟨46, 4, [.agg [.int .i64 o5, .int .i64 p2, .int .i64 x18.Low, .int .i64 x18.High]], 0⟩])] rfl rfl (all1 (VRd.ntl (rd_fieldAddr rfl tf_37_2 ts_22 (by decide))) all0) ?_
                    refine dops_rdW [(low, [⟨37, 3, [.agg [.int .i64 p1.Address, .int .i64 p1.Kind, .vs 1 (List.map (PV.int .u8) p1.Data)]], 0⟩, ⟨46, 4, [.agg [.int .i64 0, .int .i64 0, .int .i64 0, .int .i64 0]], 0⟩, ⟨46, 4, [.agg [.int .i64 o5, .int .i64 p2, .int .i64 x18.Low, .int .i64 x18.High]], 0⟩])] rfl rfl (all1 (VRd.ntl (rd_load1 rfl (getO_N rfl rfl) rfl ta_22 rfl)) all0) ?_
                    refine dops_rdW [(low, [⟨37, 3, [.agg [.int .i64 p1.Address, .int .i64 p1.Kind, .vs 1 (List.map (PV.int .u8) p1.Data)]], 0⟩, ⟨46, 4, [.agg [.int .i64 0, .int .i64 0, .int .i64 0, .int .i64 0]], 0⟩, ⟨46, 4, [.agg [.int .i64 o5, .int .i64 p2, .int .i64 x18.Low, .int .i64 x18.High]], 0⟩])] rfl rfl (all1 (VRd.ntl (rd_to (rd_ixV rfl rfl h28 te_22 ts_5) (v' := .vptr [.int .u8 x27] 0) rfl)) all0) ?_
                    refine dops_rdW [(low, [⟨37, 3, [.agg [.int .i64 p1.Address, .int .i64 p1.Kind, .vs 1 (List.map (PV.int .u8) p1.Data)]], 0⟩, ⟨46, 4, [.agg [.int .i64 0, .int .i64 0, .int .i64 0, .int .i64 0]], 0⟩, ⟨46, 4, [.agg [.int .i64 o5, .int .i64 p2, .int .i64 x18.Low, .int .i64 x18.High]], 0⟩])] rfl rfl (all1 (VRd.ntl (rd_loadV1 rfl ta_5 rfl)) all0) ?_
                    refine dops_rdW [(low, [⟨37, 3, [.agg [.int .i64 p1.Address, .int .i64 p1.Kind, .vs 1 (List.map (PV.int .u8) p1.Data)]], 0⟩, ⟨46, 4, [.agg [.int .i64 0, .int .i64 0, .int .i64 0, .int .i64 0]], 0⟩, ⟨46, 4, [.agg [.int .i64 o5, .int .i64 p2, .int .i64 x18.Low, .int .i64 x18.High]], 0⟩])] rfl rfl (all1 (VRd.ntl (rd_conv rfl us_5 ti_3 rfl)) all0) ?_
                    refine dops_rdW [(low, [⟨37, 3, [.agg [.int .i64 p1.Address, .int .i64 p1.Kind, .vs 1 (List.map (PV.int .u8) p1.Data)]], 0⟩, ⟨46, 4, [.agg [.int .i64 0, .int .i64 0, .int .i64 0, .int .i64 0]], 0⟩, ⟨46, 4, [.agg [.int .i64 o5, .int .i64 p2, .int .i64 x18.Low, .int .i64 x18.High]], 0⟩])] rfl rfl (all1 (VRd.ntl (rd_shlC (c := 256) rfl rfl (by decide) rfl rfl)) all0) ?_
                    refine dops_rdW [(low, [⟨37, 3, [.agg [.int .i64 p1.Address, .int .i64 p1.Kind, .vs 1 (List.map (PV.int .u8) p1.Data)]], 0⟩, ⟨46, 4, [.agg [.int .i64 0, .int .i64 0, .int .i64 0, .int .i64 0]], 0⟩, ⟨46, 4, [.agg [.int .i64 o5, .int .i64 p2, .int .i64 x18.Low, .int .i64 x18.High]], 0⟩])] rfl rfl (all1 (VRd.ntl (rd_fieldAddr rfl tf_37_2 ts_22 (by decide))) all0) ?_
                    refine dops_rdW [(low, [⟨37, 3, [.agg [.int .i64 p1.Address, .int .i64 p1.Kind, .vs 1 (List.map (PV.int .u8) p1.Data)]], 0⟩, ⟨46, 4, [.agg [.int .i64 0, .int .i64 0, .int .i64 0, .int .i64 0]], 0⟩, ⟨46, 4, [.agg [.int .i64 o5, .int .i64 p2, .int .i64 x18.Low, .int .i64 x18.High]], 0⟩])] rfl rfl (all1 (VRd.ntl (rd_load1 rfl (getO_N rfl rfl) rfl ta_22 rfl)) all0) ?_
                    refine dops_rdW [(low, [⟨37, 3, [.agg [.int .i64 p1.Address, .int .i64 p1.Kind, .vs 1 (List.map (PV.int .u8) p1.Data)]], 0⟩, ⟨46, 4, [.agg [.int .i64 0, .int .i64 0, .int .i64 0, .int .i64 0]], 0⟩, ⟨46, 4, [.agg [.int .i64 o5, .int .i64 p2, .int .i64 x18.Low, .int .i64 x18.High]], 0⟩])] rfl rfl (all1 (VRd.ntl (rd_to (rd_ixV rfl rfl h30 te_22 ts_5) (v' := .vptr [.int .u8 x29] 0) rfl)) all0) ?_
                    refine dops_rdW [(low, [⟨37, 3, [.agg [.int .i64 p1.Address, .int .i64 p1.Kind, .vs 1 (List.map (PV.int .u8) p1.Data)]], 0⟩, ⟨46, 4, [.agg [.int .i64 0, .int .i64 0, .int .i64 0, .int .i64 0]], 0⟩, ⟨46, 4, [.agg [.int .i64 o5, .int .i64 p2, .int .i64 x18.Low, .int .i64 x18.High]], 0⟩])] rfl rfl (all1 (VRd.ntl (rd_loadV1 rfl ta_5 rfl)) all0) ?_
                    refine dops_rdW [(low, [⟨37, 3, [.agg [.int .i64 p1.Address, .int .i64 p1.Kind, .vs 1 (List.map (PV.int .u8) p1.Data)]], 0⟩, ⟨46, 4, [.agg [.int .i64 0, .int .i64 0, .int .i64 0, .int .i64 0]], 0⟩, ⟨46, 4, [.agg [.int .i64 o5, .int .i64 p2, .int .i64 x18.Low, .int .i64 x18.High]], 0⟩])] rfl rfl (all1 (VRd.ntl (rd_conv rfl us_5 ti_3 rfl)) all0) ?_
                    refine dops_rdW [(low, [⟨37, 3, [.agg [.int .i64 p1.Address, .int .i64 p1.Kind, .vs 1 (List.map (PV.int .u8) p1.Data)]], 0⟩, ⟨46, 4, [.agg [.int .i64 0, .int .i64 0, .int .i64 0, .int .i64 0]], 0⟩, ⟨46, 4, [.agg [.int .i64 o5, .int .i64 p2, .int .i64 x18.Low, .int .i64 x18.High]], 0⟩])] rfl rfl (all1 (VRd.ntl (rd_or rfl rfl rfl)) all0) ?_
                    refine dops_rdW [(low, [⟨37, 3, [.agg [.int .i64 p1.Address, .int .i64 p1.Kind, .vs 1 (List.map (PV.int .u8) p1.Data)]], 0⟩, ⟨46, 4, [.agg [.int .i64 0, .int .i64 0, .int .i64 0, .int .i64 0]], 0⟩, ⟨46, 4, [.agg [.int .i64 o5, .int .i64 p2, .int .i64 x18.Low, .int .i64 x18.High]], 0⟩])] rfl rfl (all1 (nt_of (vef_callP rfl Try.call31 (F_sensor_value_ok h32 _))) all0) ?_
                    refine dops_rdW [(low, [⟨37, 3, [.agg [.int .i64 p1.Address, .int .i64 p1.Kind, .vs 1 (List.map (PV.int .u8) p1.Data)]], 0⟩, ⟨46, 4, [.agg [.int .i64 0, .int .i64 0, .int .i64 0, .int .i64 0]], 0⟩, ⟨46, 4, [.agg [.int .i64 o5, .int .i64 p2, .int .i64 x18.Low, .int .i64 x18.High]], 0⟩])] rfl rfl (all1 (VRd.ntl (rd_fieldAddr rfl tf_46_2 ts_33 (by decide))) all0) ?_
                    refine dops_ef (M := (low, [⟨37, 3, [.agg [.int .i64 p1.Address, .int .i64 p1.Kind, .vs 1 (List.map (PV.int .u8) p1.Data)]], 0⟩, ⟨46, 4, [.agg [.int .i64 0, .int .i64 0, .int .i64 0, .int .i64 0]], 0⟩, ⟨46, 4, [.agg [.int .i64 o5, .int .i64 p2, .int .i64 x18.Low, .int .i64 x18.High]], 0⟩])) (M' := (low, [⟨37, 3, [.agg [.int .i64 p1.Address, .int .i64 p1.Kind, .vs 1 (List.map (PV.int .u8) p1.Data)]], 0⟩, ⟨46, 4, [.agg [.int .i64 0, .int .i64 0, .int .i64 0, .int .i64 0]], 0⟩, ⟨46, 4, [.agg [.int .i64 o5, .int .i64 p2, .int .i64 x31.Low, .int .i64 x31.High]], 0⟩])) rfl rfl rfl (vef_store (p := .agg [.int .i64 x31.Low, .int .i64 x31.High]) (e' := .agg [.int .i64 o5, .int .i64 p2, .int .i64 x31.Low, .int .i64 x31.High]) rfl (getO_N rfl rfl) rfl rfl ts_33 rfl (nt_ne rfl) rfl (Nat.le_of_ble_eq_true rfl) rfl (setO_N rfl rfl)) ?_
                    refine dops_nil ?_
                    obtain rfl := Option.some.inj hF
                    refine onlyE ?_
                    exact weak_pick rfl [(1, 0), (2, 0)] (by decide) ⟨rn_ptr 0 1 rfl rfl, rn_ptr 1 2 rfl rfl, trivial⟩ ⟨⟨_, rfl, rfl, .same _ _ _ _ (ltObj_es ⟨(lt_agg ⟨.int _ _, .int _ _, .int _ _, .int _ _, trivial⟩), trivial⟩)⟩, ⟨_, rfl, rfl, .same _ _ _ _ (ltObj_es ⟨(lt_agg ⟨.int _ _, .int _ _, .int _ _, .int _ _, trivial⟩), trivial⟩)⟩, trivial⟩
                · have hF := bifF c23 hF
                  refine vwp_seq ?_
                  refine vwp_region ?_
                  refine vops_rd (rd_eql rfl rfl) rfl ?_
                  refine vops_rd (rd_asB rfl) rfl ?_
                  refine vops_nil ?_
                  refine vwp_cond rfl (fun c33 => ?_) (fun c33 => ?_)
                  · have hF := bifT c33 hF
                    refine vwp_seq ?_
                    refine vwp_region ?_
                    refine vops_rd (rd_fieldAddr rfl tf_37_2 ts_22 (by decide)) rfl ?_
                    refine vops_rd (rd_load1 rfl (getO_N rfl rfl) rfl ta_22 rfl) rfl ?_
                    refine vops_rd (rd_to (rd_lenV rfl rfl te_22) (congrArg (fun n : Nat => PV.int .i64 (n : Int)) (List.length_map _))) rfl ?_
                    refine vops_rd (rd_neq rfl rfl) rfl ?_
                    refine vops_nil ?_
                    refine vwp_cond rfl (fun c34 => ?_) (fun c34 => ?_)
                    · have hF := bifT c34 hF
                      refine vwp_seq ?_
                      refine vwp_region ?_
                      refine vops_rd (rd_build (vs := []) (ds := [.int .i64 0, .int .i64 0, .int .i64 0, .int .i64 0]) tz_46 rfl rfl tp_46 trivial (nt_all2 rfl) rfl) rfl ?_
                      refine vops_efE (vef_store (p := .agg [.int .i64 0, .int .i64 0, .int .i64 0, .int .i64 0]) (e' := .agg [.int .i64 0, .int .i64 0, .int .i64 0, .int .i64 0]) rfl (getO_N rfl rfl) rfl rfl ts_46 rfl (nt_ne rfl) rfl (Nat.le_of_ble_eq_true rfl) rfl (setO_N rfl rfl)) rfl ?_
                      refine vops_rd (rd_asI rfl) rfl ?_
                      refine vops_nil ?_
                      refine vwp_ret ?_
                      obtain rfl := Option.some.inj hF
                      refine onlyE ?_
                      exact weak_pick rfl [(1, 0)] (by decide) ⟨rn_ptr 0 1 rfl rfl, rn_low rfl (.int _ _), trivial⟩ ⟨⟨_, rfl, rfl, .same _ _ _ _ (ltObj_es ⟨(lt_agg ⟨.int _ _, .int _ _, .int _ _, .int _ _, trivial⟩), trivial⟩)⟩, trivial⟩
                    · have hF := bifF c34 hF
                      refine vwp_skip ?_
                      obtain rfl := Option.some.inj hF
                      refine onlyE ?_
                      exact weak_pick rfl [(1, 0), (2, 0)] (by decide) ⟨rn_ptr 0 1 rfl rfl, rn_ptr 1 2 rfl rfl, trivial⟩ ⟨⟨_, rfl, rfl, .same _ _ _ _ (ltObj_es ⟨(lt_agg ⟨.int _ _, .int _ _, .int _ _, .int _ _, trivial⟩), trivial⟩)⟩, ⟨_, rfl, rfl, .same _ _ _ _ (ltObj_es ⟨(lt_agg ⟨.int _ _, .int _ _, .int _ _, .int _ _, trivial⟩), trivial⟩)⟩, trivial⟩
                  · have hF := bifF c33 hF
                    refine vwp_seq ?_
                    refine vwp_region ?_
                    refine vops_rd (rd_build (vs := []) (ds := [.int .i64 0, .int .i64 0, .int .i64 0, .int .i64 0]) tz_46 rfl rfl tp_46 trivial (nt_all2 rfl) rfl) rfl ?_
                    refine vops_efE (vef_store (p := .agg [.int .i64 0, .int .i64 0, .int .i64 0, .int .i64 0]) (e' := .agg [.int .i64 0, .int .i64 0, .int .i64 0, .int .i64 0]) rfl (getO_N rfl rfl) rfl rfl ts_46 rfl (nt_ne rfl) rfl (Nat.le_of_ble_eq_true rfl) rfl (setO_N rfl rfl)) rfl ?_
                    refine vops_rd (rd_asI rfl) rfl ?_
                    refine vops_nil ?_
                    refine vwp_ret ?_
                    obtain rfl := Option.some.inj hF
                    refine onlyE ?_
                    exact weak_pick rfl [(1, 0)] (by decide) ⟨rn_ptr 0 1 rfl rfl, rn_low rfl (.int _ _), trivial⟩ ⟨⟨_, rfl, rfl, .same _ _ _ _ (ltObj_es ⟨(lt_agg ⟨.int _ _, .int _ _, .int _ _, .int _ _, trivial⟩), trivial⟩)⟩, trivial⟩
              · rcases o20 with j21 | j22
                · replace hF := elimL hF
                  rintro _ _ _ _ ⟨rfl, hw⟩
                  refine ⟨_, _, _, hw, ?_⟩
                  refine vwp_seq ?_
                  refine vwp_region ?_
                  refine vops_rd (rd_loadN (ds := [.int .i64 j21.Sensor, .int .i64 j21.Time, .int .i64 j21.Span.Low, .int .i64 j21.Span.High]) rfl (getO_N rfl rfl) rfl ta_46 ts_46 rfl rfl rfl) rfl ?_
                  refine vops_efE (vef_store (p := .agg [.int .i64 j21.Sensor, .int .i64 j21.Time, .int .i64 j21.Span.Low, .int .i64 j21.Span.High]) (e' := .agg [.int .i64 j21.Sensor, .int .i64 j21.Time, .int .i64 j21.Span.Low, .int .i64 j21.Span.High]) rfl (getO_N rfl rfl) rfl rfl ts_46 rfl (nt_ne rfl) rfl (Nat.le_of_ble_eq_true rfl) rfl (setO_N rfl rfl)) rfl ?_
                  refine vops_rd (rd_asI rfl) rfl ?_
                  refine vops_nil ?_
                  refine vwp_ret ?_
                  obtain rfl := Option.some.inj hF
                  refine fnR ?_
                  exact weak_pick rfl [(0, 0)] (by decide) ⟨rn_ptr 0 0 rfl rfl, rn_low rfl (.int _ _), trivial⟩ ⟨⟨_, rfl, rfl, .same _ _ _ _ (ltObj_es ⟨(lt_agg ⟨.int _ _, .int _ _, .int _ _, .int _ _, trivial⟩), trivial⟩)⟩, trivial⟩
                · replace hF := elimR hF
                  rintro _ _ _ _ ⟨rfl, hw⟩
                  refine ⟨_, _, _, hw, ?_⟩
                  obtain rfl := Option.some.inj hF
                  refine fnR ?_
                  exact weak_sub ⟨rfl, rfl, trivial⟩
  · rintro _ _ _ _ ⟨he, hw⟩
    refine ⟨_, _, _, hw, ?_⟩
    exact bodyQ_pure he [.agg [.int .i64 r.1.Sensor, .int .i64 r.1.Time, .int .i64 r.1.Span.Low, .int .i64 r.1.Span.High], .int .i64 r.2] ⟨rd_loadN rfl (getO_N rfl rfl) rfl ta_46 ts_46 rfl rfl rfl, rfl, trivial⟩ ((lt_tup ⟨(lt_agg ⟨.int _ _, .int _ _, .int _ _, .int _ _, trivial⟩), .int _ _, trivial⟩)) ⟨rfl, rfl⟩

theorem F_ref05_Nothing_ok  {r : T_Span} (hF : F_ref05_Nothing = some r) (low : List AObj) :
    VCalls Try.prog 30 [] low fun x low' => x = .agg [.int .i64 r.Low, .int .i64 r.High] ∧ low' = low := by
  refine vcalls_of_body (nt := 2) (rs := [.cell 0 33]) Try.func30 rfl rfl (Nat.le_of_ble_eq_true rfl) rfl ?_
  refine vwp_monoW (Q' := FnE (fun E' lw lc => Weak E' lw lc [(0, .ptr (low.length + 0) 0 0 0)] low [⟨33, 2, [.agg [.int .i64 r.Low, .int .i64 r.High]], 0⟩])) ?_ ?_
  · unfold F_ref05_Nothing at hF
    refine vwp_seq ?_
    refine vwp_region ?_
    refine vops_efE (vef_allocN rfl rfl tz_33 rfl rfl (Nat.succ_pos _) rfl) rfl ?_
    refine vops_nil ?_
    refine vwp_seq ?_
    refine vwp_region ?_
    refine vops_rd (rd_build (vs := [(0, .int .i64 (-1125899906842624)), (1, .int .i64 1125899906842624)]) (ds := [.int .i64 (-1125899906842624), .int .i64 1125899906842624]) tz_33 rfl rfl tp_33 ⟨rfl, rfl, rfl, rfl, trivial⟩ (nt_all2 rfl) rfl) rfl ?_
    refine vops_efE (vef_store (p := .agg [.int .i64 (-1125899906842624), .int .i64 1125899906842624]) (e' := .agg [.int .i64 (-1125899906842624), .int .i64 1125899906842624]) rfl (getO_N rfl rfl) rfl rfl ts_33 rfl (nt_ne rfl) rfl (Nat.le_of_ble_eq_true rfl) rfl (setO_N rfl rfl)) rfl ?_
    refine vops_nil ?_
    refine vwp_ret ?_
    obtain rfl := Option.some.inj hF
    refine fnR ?_
    exact weak_sub ⟨rfl, trivial⟩
  · rintro _ _ _ _ ⟨he, hw⟩
    refine ⟨_, _, _, hw, ?_⟩
    exact bodyQ_pure he [.agg [.int .i64 r.Low, .int .i64 r.High]] ⟨rd_loadN rfl (getO_N rfl rfl) rfl ta_33 ts_33 rfl rfl rfl, trivial⟩ ((lt_agg ⟨.int _ _, .int _ _, trivial⟩)) ⟨rfl, rfl⟩

theorem F_sensor_Value_ok {p0 : T_Sensor} {p1 : Int} {r : T_Span} (hF : F_sensor_Value p0 p1 = some r) (low : List AObj) :
    VCalls Try.prog 15 [.agg [.int .i64 p0.Address, .int .i64 p0.Kind, .int .i64 p0.Target, .int .i64 p0.Offset, .int .i64 p0.Scale, .int .i64 p0.Error, .int .i64 p0.Drift, .int .i64 p0.Life], .int .i64 p1] low fun x low' => x = .agg [.int .i64 r.Low, .int .i64 r.High] ∧ low' = low := by
  refine vcalls_of_body (nt := 12) (rs := [.cell 4 33]) Try.func15 rfl rfl (Nat.le_of_ble_eq_true rfl) rfl ?_
  refine vwp_monoW (Q' := FnE (fun E' lw lc => Weak E' lw lc [(4, .ptr (low.length + 0) 0 0 0)] low [⟨33, 2, [.agg [.int .i64 r.Low, .int .i64 r.High]], 0⟩])) ?_ ?_
  · unfold F_sensor_Value at hF
    refine vwp_seq ?_
    refine vwp_region ?_
    refine vops_efE (vef_boxN rfl rfl (v := .agg [.int .i64 p0.Address, .int .i64 p0.Kind, .int .i64 p0.Target, .int .i64 p0.Offset, .int .i64 p0.Scale, .int .i64 p0.Error, .int .i64 p0.Drift, .int .i64 p0.Life]) rfl rfl (Nat.succ_pos _) rfl rfl) rfl ?_
    refine vops_efE (vef_allocN rfl rfl tz_33 rfl rfl (Nat.succ_pos _) rfl) rfl ?_
    refine vops_nil ?_
    refine vwp_seq ?_
    refine vwp_seq ?_
    refine vwp_region ?_
    obtain ⟨x1, h2, hF⟩ := bnd hF
    refine vops_rd (rd_loadN (ds := [.int .i64 p0.Address, .int .i64 p0.Kind, .int .i64 p0.Target, .int .i64 p0.Offset, .int .i64 p0.Scale, .int .i64 p0.Error, .int .i64 p0.Drift, .int .i64 p0.Life]) rfl (getO_N rfl rfl) rfl ta_24 ts_24 rfl rfl rfl) rfl ?_
    refine vops_efE (vef_callP rfl Try.call11 (F_sensor_Check_ok h2 _)) rfl ?_
    refine vops_rd (rd_neq rfl rfl) rfl ?_
    refine vops_nil ?_
    refine vwp_cond rfl (fun c3 => ?_) (fun c3 => ?_)
    · have hF := bifT c3 hF
      refine vwp_seq ?_
      refine vwp_region ?_
      obtain ⟨x4, h5, hF⟩ := bnd hF
      refine vops_efE (vef_callP rfl Try.call25 (F_sensor_Nothing_ok h5 _)) rfl ?_
      refine vops_efE (vef_store (p := .agg [.int .i64 x4.Low, .int .i64 x4.High]) (e' := .agg [.int .i64 x4.Low, .int .i64 x4.High]) rfl (getO_N rfl rfl) rfl rfl ts_33 rfl (nt_ne rfl) rfl (Nat.le_of_ble_eq_true rfl) rfl (setO_N rfl rfl)) rfl ?_
      refine vops_nil ?_
      refine vwp_ret ?_
      obtain rfl := Option.some.inj hF
      refine fnR ?_
      exact weak_pick rfl [(1, 0)] (by decide) ⟨rn_ptr 0 1 rfl rfl, trivial⟩ ⟨⟨_, rfl, rfl, .same _ _ _ _ (ltObj_es ⟨(lt_agg ⟨.int _ _, .int _ _, trivial⟩), trivial⟩)⟩, trivial⟩
    · have hF := bifF c3 hF
      refine vwp_skip ?_
      refine vwp_seq ?_
      refine vwp_region ?_
      obtain ⟨x6, h7, hF⟩ := bnd hF
      refine vops_rd (rd_loadN (ds := [.int .i64 p0.Address, .int .i64 p0.Kind, .int .i64 p0.Target, .int .i64 p0.Offset, .int .i64 p0.Scale, .int .i64 p0.Error, .int .i64 p0.Drift, .int .i64 p0.Life]) rfl (getO_N rfl rfl) rfl ta_24 ts_24 rfl rfl rfl) rfl ?_
      refine vops_rd (rd_mvI rfl) rfl ?_
      refine vops_efE (vef_callP rfl Try.call31 (F_sensor_value_ok h7 _)) rfl ?_
      refine vops_efE (vef_store (p := .agg [.int .i64 x6.Low, .int .i64 x6.High]) (e' := .agg [.int .i64 x6.Low, .int .i64 x6.High]) rfl (getO_N rfl rfl) rfl rfl ts_33 rfl (nt_ne rfl) rfl (Nat.le_of_ble_eq_true rfl) rfl (setO_N rfl rfl)) rfl ?_
      refine vops_nil ?_
      refine vwp_ret ?_
      obtain rfl := Option.some.inj hF
      refine fnR ?_
      exact weak_pick rfl [(1, 0)] (by decide) ⟨rn_ptr 0 1 rfl rfl, trivial⟩ ⟨⟨_, rfl, rfl, .same _ _ _ _ (ltObj_es ⟨(lt_agg ⟨.int _ _, .int _ _, trivial⟩), trivial⟩)⟩, trivial⟩
  · rintro _ _ _ _ ⟨he, hw⟩
    refine ⟨_, _, _, hw, ?_⟩
    exact bodyQ_pure he [.agg [.int .i64 r.Low, .int .i64 r.High]] ⟨rd_loadN rfl (getO_N rfl rfl) rfl ta_33 ts_33 rfl rfl rfl, trivial⟩ ((lt_agg ⟨.int _ _, .int _ _, trivial⟩)) ⟨rfl, rfl⟩

theorem F_law05_awake_ok  {r : Bool} (hF : F_law05_awake = some r) (low : List AObj) :
    VCalls Try.prog 13 [] low fun x low' => x = .bool r ∧ low' = low := by
  refine vcalls_of_body (nt := 37) (rs := [.tmp 0]) Try.func13 rfl rfl (Nat.le_of_ble_eq_true rfl) rfl ?_
  refine vwp_monoW (Q' := FnE (fun E' lw lc => Weak E' lw lc [(0, .bool r)] low [])) ?_ ?_
  · unfold F_law05_awake at hF
    refine vwp_seq ?_
    refine vwp_region ?_
    refine vops_rd (rd_asB rfl) rfl ?_
    refine vops_nil ?_
    refine vwp_seq ?_
    refine vwp_region ?_
    refine vops_rd (rd_build (vs := [(1, .int .i64 3), (4, .int .i64 500), (5, .int .i64 3), (7, .int .i64 1)]) (ds := [.int .i64 0, .int .i64 3, .int .i64 0, .int .i64 0, .int .i64 500, .int .i64 3, .int .i64 0, .int .i64 1]) tz_24 rfl rfl tp_24 ⟨rfl, rfl, rfl, rfl, rfl, rfl, rfl, rfl, trivial⟩ (nt_all2 rfl) rfl) rfl ?_
    refine vops_efE (vef_allocN rfl rfl tz_24 rfl rfl (Nat.succ_pos _) rfl) rfl ?_
    refine vops_efE (vef_store (p := .agg [.int .i64 0, .int .i64 3, .int .i64 0, .int .i64 0, .int .i64 500, .int .i64 3, .int .i64 0, .int .i64 1]) (e' := .agg [.int .i64 0, .int .i64 3, .int .i64 0, .int .i64 0, .int .i64 500, .int .i64 3, .int .i64 0, .int .i64 1]) rfl (getO_N rfl rfl) rfl rfl ts_24 rfl (nt_ne rfl) rfl (Nat.le_of_ble_eq_true rfl) rfl (setO_N rfl rfl)) rfl ?_
    refine vops_nil ?_
    refine vwp_seq ?_
    refine vwp_region ?_
    obtain ⟨x1, h2, hF⟩ := bnd hF
    refine vops_rd (rd_loadN (ds := [.int .i64 0, .int .i64 3, .int .i64 0, .int .i64 0, .int .i64 500, .int .i64 3, .int .i64 0, .int .i64 1]) rfl (getO_N rfl rfl) rfl ta_24 ts_24 rfl rfl rfl) rfl ?_
    refine vops_efE (vef_litF (es := List.map T_Sensor.enc [(T_Sensor.mk 0 3 0 0 500 3 0 1)]) ⟨rfl, rfl, trivial⟩ rfl rfl (nt_all rfl) te_31 ts_24 tz_24 rfl rfl (Nat.succ_pos _) (by decide) (lt_map T_Sensor.enc_lt)) rfl ?_
    refine vops_efE (vef_litF (es := List.map (PV.int .u8) [0, 101]) ⟨rfl, rfl, rfl, rfl, trivial⟩ rfl rfl (nt_all rfl) te_22 ts_5 tz_5 rfl rfl (Nat.succ_pos _) (by decide) (lt_map (fun _ => .int _ _))) rfl ?_
    refine vops_rd (rd_build (vs := [(1, .int .i64 1), (2, .vs 1 (List.map (PV.int .u8) [0, 101]))]) (ds := [.int .i64 0, .int .i64 1, .vs 1 (List.map (PV.int .u8) [0, 101])]) tz_37 rfl rfl tp_37 ⟨rfl, rfl, rfl, rfl, trivial⟩ (nt_all2 rfl) rfl) rfl ?_
    refine vops_efE (vef_callP rfl Try.call22 (F_sensor_Decode_ok h2 _)) rfl ?_
    refine vops_rd (rd_mvT rfl) rfl ?_
    refine vops_rd (rd_extract rfl rfl) rfl ?_
    refine vops_rd (rd_extract rfl rfl) rfl ?_
    refine vops_efE (vef_allocN rfl rfl tz_46 rfl rfl (Nat.succ_pos _) rfl) rfl ?_
    refine vops_efE (vef_store (p := .agg [.int .i64 x1.1.Sensor, .int .i64 x1.1.Time, .int .i64 x1.1.Span.Low, .int .i64 x1.1.Span.High]) (e' := .agg [.int .i64 x1.1.Sensor, .int .i64 x1.1.Time, .int .i64 x1.1.Span.Low, .int .i64 x1.1.Span.High]) rfl (getO_N rfl rfl) rfl rfl ts_46 rfl (nt_ne rfl) rfl (Nat.le_of_ble_eq_true rfl) rfl (setO_N rfl rfl)) rfl ?_
    refine vops_rd (rd_asI rfl) rfl ?_
    refine vops_nil ?_
    refine vwp_seq ?_
    refine vwp_region ?_
    obtain ⟨x3, h4, hF⟩ := bnd hF
    rcases Bool.eq_false_or_eq_true (decide (x3 = 0)) with c5 | c5
    · have hF := bifT c5 hF
      obtain ⟨x6, h7, hF⟩ := bnd hF
      obtain ⟨x8, h9, hF⟩ := bnd hF
      rcases Bool.eq_false_or_eq_true ((x6.Low == x8.Low) && ((x6.High == x8.High) && true)) with c10 | c10
      · have hF := bifT c10 hF
        obtain ⟨x11, h12, hF⟩ := bnd hF
        rcases Bool.eq_false_or_eq_true ((x11.Low == 47) && ((x11.High == 54) && true)) with c13 | c13
        · have hF := bifT c13 hF
          rcases Bool.eq_false_or_eq_true (decide (x1.2 = 0)) with c14 | c14
          · have hF := bifT c14 hF
            refine vops_rd (rd_loadN (ds := [.int .i64 0, .int .i64 3, .int .i64 0, .int .i64 0, .int .i64 500, .int .i64 3, .int .i64 0, .int .i64 1]) rfl (getO_N rfl rfl) rfl ta_24 ts_24 rfl rfl rfl) rfl ?_
            refine vops_efE (vef_callP rfl Try.call11 (F_sensor_Check_ok h4 _)) rfl ?_
            refine vops_rd (rd_eql rfl rfl) rfl ?_
            refine vops_rd (rd_mvB rfl) rfl ?_
            refine vops_take rfl (congrArg PV.bool c5) ?_
            refine vops_efE (vef_callP rfl Try.call25 (F_sensor_Nothing_ok h7 _)) rfl ?_
            refine vops_take rfl (congrArg PV.bool c5) ?_
            refine vops_efE (vef_callP rfl Try.call30 (F_ref05_Nothing_ok h9 _)) rfl ?_
            refine vops_take rfl (congrArg PV.bool c5) ?_
            refine vops_rd (rd_eqlV (tab := eqTab) eqTab_ok rfl rfl eqg_33 rfl) rfl ?_
            refine vops_rd (rd_pickT (congrArg PV.bool c5) rfl) rfl ?_
            refine vops_rd (rd_mvB rfl) rfl ?_
            refine vops_take rfl (congrArg PV.bool c10) ?_
            refine vops_rd (rd_loadN (ds := [.int .i64 0, .int .i64 3, .int .i64 0, .int .i64 0, .int .i64 500, .int .i64 3, .int .i64 0, .int .i64 1]) rfl (getO_N rfl rfl) rfl ta_24 ts_24 rfl rfl rfl) rfl ?_
            refine vops_take rfl (congrArg PV.bool c10) ?_
            refine vops_efE (vef_callP rfl Try.call15 (F_sensor_Value_ok h12 _)) rfl ?_
            refine vops_take rfl (congrArg PV.bool c10) ?_
            refine vops_rd (rd_build (vs := [(0, .int .i64 47), (1, .int .i64 54)]) (ds := [.int .i64 47, .int .i64 54]) tz_33 rfl rfl tp_33 ⟨rfl, rfl, rfl, rfl, trivial⟩ (nt_all2 rfl) rfl) rfl ?_
            refine vops_take rfl (congrArg PV.bool c10) ?_
            refine vops_rd (rd_eqlV (tab := eqTab) eqTab_ok rfl rfl eqg_33 rfl) rfl ?_
            refine vops_rd (rd_pickT (congrArg PV.bool c10) rfl) rfl ?_
            refine vops_rd (rd_mvB rfl) rfl ?_
            refine vops_take rfl (congrArg PV.bool c13) ?_
            refine vops_rd (rd_mvI rfl) rfl ?_
            refine vops_take rfl (congrArg PV.bool c13) ?_
            refine vops_rd (rd_eql rfl rfl) rfl ?_
            refine vops_rd (rd_pickT (congrArg PV.bool c13) rfl) rfl ?_
            refine vops_rd (rd_mvB rfl) rfl ?_
            refine vops_take rfl (congrArg PV.bool c14) ?_
            refine vops_rd (rd_loadN (ds := [.int .i64 x1.1.Sensor, .int .i64 x1.1.Time, .int .i64 x1.1.Span.Low, .int .i64 x1.1.Span.High]) rfl (getO_N rfl rfl) rfl ta_46 ts_46 rfl rfl rfl) rfl ?_
            refine vops_take rfl (congrArg PV.bool c14) ?_
            refine vops_rd (rd_build (vs := [(0, .int .i64 47), (1, .int .i64 54)]) (ds := [.int .i64 47, .int .i64 54]) tz_33 rfl rfl tp_33 ⟨rfl, rfl, rfl, rfl, trivial⟩ (nt_all2 rfl) rfl) rfl ?_
            refine vops_take rfl (congrArg PV.bool c14) ?_
            refine vops_rd (rd_build (vs := [(1, .int .i64 7), (2, .agg [.int .i64 47, .int .i64 54])]) (ds := [.int .i64 0, .int .i64 7, .int .i64 47, .int .i64 54]) tz_46 rfl rfl tp_46 ⟨rfl, rfl, rfl, rfl, trivial⟩ (nt_all2 rfl) rfl) rfl ?_
            refine vops_take rfl (congrArg PV.bool c14) ?_
            refine vops_rd (rd_eqlV (tab := eqTab) eqTab_ok rfl rfl eqg_46 rfl) rfl ?_
            refine vops_rd (rd_pickT (congrArg PV.bool c14) rfl) rfl ?_
            refine vops_rd (rd_asB rfl) rfl ?_
            refine vops_nil ?_
            refine vwp_ret ?_
            obtain rfl := Option.some.inj hF
            refine fnR ?_
            exact weak_pick rfl [] (by decide) ⟨rn_low rfl (.bool _), trivial⟩ trivial
          · have hF := bifF c14 hF
            refine vops_rd (rd_loadN (ds := [.int .i64 0, .int .i64 3, .int .i64 0, .int .i64 0, .int .i64 500, .int .i64 3, .int .i64 0, .int .i64 1]) rfl (getO_N rfl rfl) rfl ta_24 ts_24 rfl rfl rfl) rfl ?_
            refine vops_efE (vef_callP rfl Try.call11 (F_sensor_Check_ok h4 _)) rfl ?_
            refine vops_rd (rd_eql rfl rfl) rfl ?_
            refine vops_rd (rd_mvB rfl) rfl ?_
            refine vops_take rfl (congrArg PV.bool c5) ?_
            refine vops_efE (vef_callP rfl Try.call25 (F_sensor_Nothing_ok h7 _)) rfl ?_
            refine vops_take rfl (congrArg PV.bool c5) ?_
            refine vops_efE (vef_callP rfl Try.call30 (F_ref05_Nothing_ok h9 _)) rfl ?_
            refine vops_take rfl (congrArg PV.bool c5) ?_
            refine vops_rd (rd_eqlV (tab := eqTab) eqTab_ok rfl rfl eqg_33 rfl) rfl ?_
            refine vops_rd (rd_pickT (congrArg PV.bool c5) rfl) rfl ?_
            refine vops_rd (rd_mvB rfl) rfl ?_
            refine vops_take rfl (congrArg PV.bool c10) ?_
            refine vops_rd (rd_loadN (ds := [.int .i64 0, .int .i64 3, .int .i64 0, .int .i64 0, .int .i64 500, .int .i64 3, .int .i64 0, .int .i64 1]) rfl (getO_N rfl rfl) rfl ta_24 ts_24 rfl rfl rfl) rfl ?_
            refine vops_take rfl (congrArg PV.bool c10) ?_
            refine vops_efE (vef_callP rfl Try.call15 (F_sensor_Value_ok h12 _)) rfl ?_
            refine vops_take rfl (congrArg PV.bool c10) ?_
            refine vops_rd (rd_build (vs := [(0, .int .i64 47), (1, .int .i64 54)]) (ds := [.int .i64 47, .int .i64 54]) tz_33 rfl rfl tp_33 ⟨rfl, rfl, rfl, rfl, trivial⟩ (nt_all2 rfl) rfl) rfl ?_
            refine vops_take rfl (congrArg PV.bool c10) ?_
            refine vops_rd (rd_eqlV (tab := eqTab) eqTab_ok rfl rfl eqg_33 rfl) rfl ?_
            refine vops_rd (rd_pickT (congrArg PV.bool c10) rfl) rfl ?_
            refine vops_rd (rd_mvB rfl) rfl ?_
            refine vops_take rfl (congrArg PV.bool c13) ?_
            refine vops_rd (rd_mvI rfl) rfl ?_
            refine vops_take rfl (congrArg PV.bool c13) ?_
            refine vops_rd (rd_eql rfl rfl) rfl ?_
            refine vops_rd (rd_pickT (congrArg PV.bool c13) rfl) rfl ?_
            refine vops_rd (rd_mvB rfl) rfl ?_
            refine vops_skip rfl rfl (neF c14) rfl ?_
            refine vops_skip rfl rfl (neF c14) rfl ?_
            refine vops_skip rfl rfl (neF c14) rfl ?_
            refine vops_skip rfl rfl (neF c14) rfl ?_
            refine vops_rd (rd_pickF (congrArg PV.bool c14) rfl) rfl ?_
            refine vops_rd (rd_asB rfl) rfl ?_
            refine vops_nil ?_
            refine vwp_ret ?_
            obtain rfl := Option.some.inj hF
            refine fnR ?_
            exact weak_pick rfl [] (by decide) ⟨rn_low rfl (.bool _), trivial⟩ trivial
        · have hF := bifF c13 hF
          refine vops_rd (rd_loadN (ds := [.int .i64 0, .int .i64 3, .int .i64 0, .int .i64 0, .int .i64 500, .int .i64 3, .int .i64 0, .int .i64 1]) rfl (getO_N rfl rfl) rfl ta_24 ts_24 rfl rfl rfl) rfl ?_
          refine vops_efE (vef_callP rfl Try.call11 (F_sensor_Check_ok h4 _)) rfl ?_
          refine vops_rd (rd_eql rfl rfl) rfl ?_
          refine vops_rd (rd_mvB rfl) rfl ?_
          refine vops_take rfl (congrArg PV.bool c5) ?_
          refine vops_efE (vef_callP rfl Try.call25 (F_sensor_Nothing_ok h7 _)) rfl ?_
          refine vops_take rfl (congrArg PV.bool c5) ?_
          refine vops_efE (vef_callP rfl Try.call30 (F_ref05_Nothing_ok h9 _)) rfl ?_
          refine vops_take rfl (congrArg PV.bool c5) ?_
          refine vops_rd (rd_eqlV (tab := eqTab) eqTab_ok rfl rfl eqg_33 rfl) rfl ?_
          refine vops_rd (rd_pickT (congrArg PV.bool c5) rfl) rfl ?_
          refine vops_rd (rd_mvB rfl) rfl ?_
          refine vops_take rfl (congrArg PV.bool c10) ?_
          refine vops_rd (rd_loadN (ds := [.int .i64 0, .int .i64 3, .int .i64 0, .int .i64 0, .int .i64 500, .int .i64 3, .int .i64 0, .int .i64 1]) rfl (getO_N rfl rfl) rfl ta_24 ts_24 rfl rfl rfl) rfl ?_
          refine vops_take rfl (congrArg PV.bool c10) ?_
          refine vops_efE (vef_callP rfl Try.call15 (F_sensor_Value_ok h12 _)) rfl ?_
          refine vops_take rfl (congrArg PV.bool c10) ?_
          refine vops_rd (rd_build (vs := [(0, .int .i64 47), (1, .int .i64 54)]) (ds := [.int .i64 47, .int .i64 54]) tz_33 rfl rfl tp_33 ⟨rfl, rfl, rfl, rfl, trivial⟩ (nt_all2 rfl) rfl) rfl ?_
          refine vops_take rfl (congrArg PV.bool c10) ?_
          refine vops_rd (rd_eqlV (tab := eqTab) eqTab_ok rfl rfl eqg_33 rfl) rfl ?_
          refine vops_rd (rd_pickT (congrArg PV.bool c10) rfl) rfl ?_
          refine vops_rd (rd_mvB rfl) rfl ?_
          refine vops_skip rfl rfl (neF c13) rfl ?_
          refine vops_skip rfl rfl (neF c13) rfl ?_
          refine vops_rd (rd_pickF (congrArg PV.bool c13) rfl) rfl ?_
          refine vops_rd (rd_mvB rfl) rfl ?_
          refine vops_skip rfl rfl (by decide) rfl ?_
          refine vops_skip rfl rfl (by decide) rfl ?_
          refine vops_skip rfl rfl (by decide) rfl ?_
          refine vops_skip rfl rfl (by decide) rfl ?_
          refine vops_rd (rd_pickF rfl rfl) rfl ?_
          refine vops_rd (rd_asB rfl) rfl ?_
          refine vops_nil ?_
          refine vwp_ret ?_
          obtain rfl := Option.some.inj hF
          refine fnR ?_
          exact weak_pick rfl [] (by decide) ⟨rn_low rfl (.bool _), trivial⟩ trivial
      · have hF := bifF c10 hF
        refine vops_rd (rd_loadN (ds := [.int .i64 0, .int .i64 3, .int .i64 0, .int .i64 0, .int .i64 500, .int .i64 3, .int .i64 0, .int .i64 1]) rfl (getO_N rfl rfl) rfl ta_24 ts_24 rfl rfl rfl) rfl ?_
        refine vops_efE (vef_callP rfl Try.call11 (F_sensor_Check_ok h4 _)) rfl ?_
        refine vops_rd (rd_eql rfl rfl) rfl ?_
        refine vops_rd (rd_mvB rfl) rfl ?_
        refine vops_take rfl (congrArg PV.bool c5) ?_
        refine vops_efE (vef_callP rfl Try.call25 (F_sensor_Nothing_ok h7 _)) rfl ?_
        refine vops_take rfl (congrArg PV.bool c5) ?_
        refine vops_efE (vef_callP rfl Try.call30 (F_ref05_Nothing_ok h9 _)) rfl ?_
        refine vops_take rfl (congrArg PV.bool c5) ?_
        refine vops_rd (rd_eqlV (tab := eqTab) eqTab_ok rfl rfl eqg_33 rfl) rfl ?_
        refine vops_rd (rd_pickT (congrArg PV.bool c5) rfl) rfl ?_
        refine vops_rd (rd_mvB rfl) rfl ?_
        refine vops_skip rfl rfl (neF c10) rfl ?_
        refine vops_skip rfl rfl (neF c10) rfl ?_
        refine vops_skip rfl rfl (neF c10) rfl ?_
        refine vops_skip rfl rfl (neF c10) rfl ?_
        refine vops_rd (rd_pickF (congrArg PV.bool c10) rfl) rfl ?_
        refine vops_rd (rd_mvB rfl) rfl ?_
        refine vops_skip rfl rfl (by decide) rfl ?_
        refine vops_skip rfl rfl (by decide) rfl ?_
        refine vops_rd (rd_pickF rfl rfl) rfl ?_
        refine vops_rd (rd_mvB rfl) rfl ?_
        refine vops_skip rfl rfl (by decide) rfl ?_
        refine vops_skip rfl rfl (by decide) rfl ?_
        refine vops_skip rfl rfl (by decide) rfl ?_
        refine vops_skip rfl rfl (by decide) rfl ?_
        refine vops_rd (rd_pickF rfl rfl) rfl ?_
        refine vops_rd (rd_asB rfl) rfl ?_
        refine vops_nil ?_
        refine vwp_ret ?_
        obtain rfl := Option.some.inj hF
        refine fnR ?_
        exact weak_pick rfl [] (by decide) ⟨rn_low rfl (.bool _), trivial⟩ trivial
    · have hF := bifF c5 hF
      refine vops_rd (rd_loadN (ds := [.int .i64 0, .int .i64 3, .int .i64 0, .int .i64 0, .int .i64 500, .int .i64 3, .int .i64 0, .int .i64 1]) rfl (getO_N rfl rfl) rfl ta_24 ts_24 rfl rfl rfl) rfl ?_
      refine vops_efE (vef_callP rfl Try.call11 (F_sensor_Check_ok h4 _)) rfl ?_
      refine vops_rd (rd_eql rfl rfl) rfl ?_
      refine vops_rd (rd_mvB rfl) rfl ?_
      refine vops_skip rfl rfl (neF c5) rfl ?_
      refine vops_skip rfl rfl (neF c5) rfl ?_
      refine vops_skip rfl rfl (neF c5) rfl ?_
      refine vops_rd (rd_pickF (congrArg PV.bool c5) rfl) rfl ?_
      refine vops_rd (rd_mvB rfl) rfl ?_
      refine vops_skip rfl rfl (by decide) rfl ?_
      refine vops_skip rfl rfl (by decide) rfl ?_
      refine vops_skip rfl rfl (by decide) rfl ?_
      refine vops_skip rfl rfl (by decide) rfl ?_
      refine vops_rd (rd_pickF rfl rfl) rfl ?_
      refine vops_rd (rd_mvB rfl) rfl ?_
      refine vops_skip rfl rfl (by decide) rfl ?_
      refine vops_skip rfl rfl (by decide) rfl ?_
      refine vops_rd (rd_pickF rfl rfl) rfl ?_
      refine vops_rd (rd_mvB rfl) rfl ?_
      refine vops_skip rfl rfl (by decide) rfl ?_
      refine vops_skip rfl rfl (by decide) rfl ?_
      refine vops_skip rfl rfl (by decide) rfl ?_
      refine vops_skip rfl rfl (by decide) rfl ?_
      refine vops_rd (rd_pickF rfl rfl) rfl ?_
      refine vops_rd (rd_asB rfl) rfl ?_
      refine vops_nil ?_
      refine vwp_ret ?_
      obtain rfl := Option.some.inj hF
      refine fnR ?_
      exact weak_pick rfl [] (by decide) ⟨rn_low rfl (.bool _), trivial⟩ trivial
  · rintro _ _ _ _ ⟨he, hw⟩
    refine ⟨_, _, _, hw, ?_⟩
    exact bodyQ_pure he [.bool r] ⟨rfl, trivial⟩ (.bool _) ⟨rfl, rfl⟩

end Go.Proofs.Ytlkgcbmodajikaa
