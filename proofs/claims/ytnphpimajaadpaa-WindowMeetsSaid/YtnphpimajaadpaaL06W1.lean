/- Printed by wip/lift/lift.py: the walks that show that the program computes them. -/
import Derived.Test.YtnphpimajaadpaaR06T
import Derived.Test.YtnphpimajaadpaaAmlDB
import Derived.Test.YtnphpimajaadpaaL06D
namespace Go.Proofs.Ytnphpimajaadpaa
open Go Go.Aml Go.L
attribute [local irreducible] VRd VEf VOp VOps VWp DOps
set_option linter.unusedVariables false
set_option maxHeartbeats 4000000

theorem mixed : Try.prog.follows .mixedOrders = true := by kernel_rfl
def eqTab : EqTab := [(3, 1, []), (24, 3, [(0, 1, false, 3), (1, 1, false, 3)])]
theorem eqTab_ok : eqTabOk Try.prog eqTab = true := by kernel_rfl
theorem eqg_24 : Try.prog.eqGuardType Try.prog.depth 24 = false := by kernel_rfl

theorem F_draw_New_ok {p0 : List Int} {r : T_draw_Codes} (hF : F_draw_New p0 = some r) (low : List AObj) {n : Nat} (hn : low.length = n) :
    VCalls Try.prog 9 [.vs 1 (List.map (PV.int .u8) p0)] low fun x low' => x = .ptr (n + 0) 0 0 0 ∧ low' = low ++ [⟨51, 2, [.agg [.vs 1 (List.map (PV.int .u8) r.l), .int .i64 r.at_]], 0⟩] := by
  refine vcalls_of_body (nt := 10) (rs := [.tmp 2]) Try.func9 rfl rfl (Nat.le_of_ble_eq_true rfl) rfl ?_
  refine vwp_monoW (Q' := FnE (fun E' lw lc => Weak E' lw lc [(2, .ptr (n + 0) 0 0 0)] low [⟨51, 2, [.agg [.vs 1 (List.map (PV.int .u8) r.l), .int .i64 r.at_]], 0⟩])) ?_ ?_
  · unfold F_draw_New at hF
    refine vwp_seq ?_
    refine vwp_region ?_
    refine vops_rd (rd_asQ rfl) rfl ?_
    refine vops_nil ?_
    refine vwp_seq ?_
    refine vwp_region ?_
    obtain ⟨x1, h2, hF⟩ := bnd hF
    refine vops_rd (rd_mvV rfl) rfl ?_
    refine vops_rd (rd_mvV rfl) rfl ?_
    refine vops_rd (rd_to (rd_lenV rfl rfl te_22) (congrArg (fun n : Nat => PV.int .i64 (n : Int)) (List.length_map _))) rfl ?_
    refine vops_rd (rd_min rfl rfl) rfl ?_
    refine vops_rd (rd_slV rfl te_22 ts_5 rfl ⟨_, rfl⟩ h2) rfl ?_
    refine vops_rd (rd_build (vs := [(0, .vs 1 (List.map (PV.int .u8) x1))]) (ds := [.vs 1 (List.map (PV.int .u8) x1), .int .i64 0]) tz_51 rfl rfl tp_51 ⟨rfl, rfl, trivial⟩ (nt_all2 rfl) rfl) rfl ?_
    refine vops_efE (vef_boxN hn rfl (v := .agg [.vs 1 (List.map (PV.int .u8) x1), .int .i64 0]) rfl rfl (Nat.succ_pos _) rfl rfl) rfl ?_
    refine vops_rd (rd_asP rfl) rfl ?_
    refine vops_nil ?_
    refine vwp_ret ?_
    obtain rfl := Option.some.inj hF
    refine fnR ?_
    exact weak_sub ⟨rfl, trivial⟩
  · rintro _ _ _ _ ⟨he, hw⟩
    refine ⟨_, _, _, hw, ?_⟩
    exact bodyQ_all he [.ptr (n + 0) 0 0 0] ⟨rfl, trivial⟩ ⟨rfl, rfl⟩

theorem F_draw_Codes_Next_ok0 {p0 : T_draw_Codes} {p1 : Int} {r : T_draw_Codes × Int} (hF : F_draw_Codes_Next p0 p1 = some r) {low0 : List AObj} {q0 w0 : Nat} (hq0 : q0 < low0.length) :
    VCalls Try.prog 20 [.ptr q0 w0 0 0, .int .i64 p1] (low0.set q0 ⟨51, 2, [.agg [.vs 1 (List.map (PV.int .u8) p0.l), .int .i64 p0.at_]], w0⟩) fun x low' => x = .int .i64 r.2 ∧ low' = low0.set q0 ⟨51, 2, [.agg [.vs 1 (List.map (PV.int .u8) r.1.l), .int .i64 r.1.at_]], w0⟩ := by
  refine vcalls_of_body (nt := 77) (rs := [.tmp 4]) Try.func20 rfl rfl (Nat.le_of_ble_eq_true rfl) rfl ?_
  refine vwp_monoW (Q' := FnE (fun E' lw lc => Weak E' lw lc [(4, .int .i64 r.2)] (low0.set q0 ⟨51, 2, [.agg [.vs 1 (List.map (PV.int .u8) r.1.l), .int .i64 r.1.at_]], w0⟩) [])) ?_ ?_
  · unfold F_draw_Codes_Next at hF
    refine vwp_seq ?_
    refine vwp_region ?_
    refine vops_rd (rd_asI rfl) rfl ?_
    refine vops_nil ?_
    refine vwp_seq ?_
    refine vwp_seq ?_
    obtain ⟨o1, ho1, hF⟩ := bnd hF
    refine vwp_monoW (Q' := (fun o1 => OnlyE .normal (fun E' lw lc => Weak E' lw lc [(0, .ptr q0 w0 0 0), (1, .int .i64 p1), (19, .bool o1)] (low0.set q0 ⟨51, 2, [.agg [.vs 1 (List.map (PV.int .u8) p0.l), .int .i64 p0.at_]], w0⟩) [])) o1) ?_ ?_
    · replace hF := ho1
      rcases Bool.eq_false_or_eq_true (decide (p1 < 1)) with c2 | c2
      · have hF := bifT c2 hF
        refine vwp_drawn [[], [0], [0, 1], [0, 1, 2], [0, 1, 2, 3], [0, 1, 2, 3, 4], [0, 1, 2, 3, 4, 5], [0, 1, 2], [0, 1, 2, 7], [0, 1, 2, 7, 8], [0, 1, 2, 7, 8, 9], [0, 1, 2, 7, 8, 9, 10], [0, 1, 2, 3, 4, 5, 6, 7, 8, 9, 10, 11], [0, 1, 2, 3, 4, 5, 6, 7, 8, 9, 10, 11, 12]] [false, false, false, false, false, false, false, false, false, false, false, false, false, false] [((low0.set q0 ⟨51, 2, [.agg [.vs 1 (List.map (PV.int .u8) p0.l), .int .i64 p0.at_]], w0⟩), [])] mixed (by kernel_rfl) rfl (lenAll (all1 len_set2 all0)) rfl ((low0.set q0 ⟨51, 2, [.agg [.vs 1 (List.map (PV.int .u8) p0.l), .int .i64 p0.at_]], w0⟩), []) rfl rfl ?_
        refine dops_rdW [((low0.set q0 ⟨51, 2, [.agg [.vs 1 (List.map (PV.int .u8) p0.l), .int .i64 p0.at_]], w0⟩), [])] rfl rfl (all1 (VRd.ntl (rd_mvI rfl)) all0) ?_
        refine dops_rdW [((low0.set q0 ⟨51, 2, [.agg [.vs 1 (List.map (PV.int .u8) p0.l), .int .i64 p0.at_]], w0⟩), [])] rfl rfl (all1 (VRd.ntl (rd_lss rfl rfl)) all0) ?_
        refine dops_rdW [((low0.set q0 ⟨51, 2, [.agg [.vs 1 (List.map (PV.int .u8) p0.l), .int .i64 p0.at_]], w0⟩), [])] rfl rfl (all1 (VRd.ntl (rd_mvB rfl)) all0) ?_
        refine dops_skip rfl rfl rfl (neT c2) ?_
        refine dops_skip rfl rfl rfl (neT c2) ?_
        refine dops_skip rfl rfl rfl (neT c2) ?_
        refine dops_skip rfl rfl rfl (neT c2) ?_
        refine dops_skip rfl rfl rfl (neT c2) ?_
        refine dops_skip rfl rfl rfl (neT c2) ?_
        refine dops_skip rfl rfl rfl (neT c2) ?_
        refine dops_skip rfl rfl rfl (neT c2) ?_
        refine dops_skip rfl rfl rfl (neT c2) ?_
        refine dops_skip rfl rfl rfl (neT c2) ?_
        refine dops_rdW [((low0.set q0 ⟨51, 2, [.agg [.vs 1 (List.map (PV.int .u8) p0.l), .int .i64 p0.at_]], w0⟩), [])] rfl rfl (all1 (VRd.ntl (rd_pickT (congrArg PV.bool c2) rfl)) all0) ?_
        refine dops_nil ?_
        obtain rfl := Option.some.inj hF
        refine onlyE ?_
        exact weak_sub ⟨rfl, rfl, rfl, trivial⟩
      · have hF := bifF c2 hF
        refine vwp_drawn [[], [0], [0, 1], [0, 1, 2], [0, 1, 2, 3], [0, 1, 2, 3, 4], [0, 1, 2, 3, 4, 5], [0, 1, 2], [0, 1, 2, 7], [0, 1, 2, 7, 8], [0, 1, 2, 7, 8, 9], [0, 1, 2, 7, 8, 9, 10], [0, 1, 2, 3, 4, 5, 6, 7, 8, 9, 10, 11], [0, 1, 2, 3, 4, 5, 6, 7, 8, 9, 10, 11, 12]] [false, false, false, false, false, false, false, false, false, false, false, false, false, false] [((low0.set q0 ⟨51, 2, [.agg [.vs 1 (List.map (PV.int .u8) p0.l), .int .i64 p0.at_]], w0⟩), [])] mixed (by kernel_rfl) rfl (lenAll (all1 len_set2 all0)) rfl ((low0.set q0 ⟨51, 2, [.agg [.vs 1 (List.map (PV.int .u8) p0.l), .int .i64 p0.at_]], w0⟩), []) rfl rfl ?_
        refine dops_rdW [((low0.set q0 ⟨51, 2, [.agg [.vs 1 (List.map (PV.int .u8) p0.l), .int .i64 p0.at_]], w0⟩), [])] rfl rfl (all1 (VRd.ntl (rd_mvI rfl)) all0) ?_
        refine dops_rdW [((low0.set q0 ⟨51, 2, [.agg [.vs 1 (List.map (PV.int .u8) p0.l), .int .i64 p0.at_]], w0⟩), [])] rfl rfl (all1 (VRd.ntl (rd_lss rfl rfl)) all0) ?_
        refine dops_rdW [((low0.set q0 ⟨51, 2, [.agg [.vs 1 (List.map (PV.int .u8) p0.l), .int .i64 p0.at_]], w0⟩), [])] rfl rfl (all1 (VRd.ntl (rd_mvB rfl)) all0) ?_
        refine dops_takeW [((low0.set q0 ⟨51, 2, [.agg [.vs 1 (List.map (PV.int .u8) p0.l), .int .i64 p0.at_]], w0⟩), [])] rfl rfl rfl (congrArg PV.bool c2) (all1 (VRd.ntl (rd_mvP rfl)) all0) ?_
        refine dops_takeW [((low0.set q0 ⟨51, 2, [.agg [.vs 1 (List.map (PV.int .u8) p0.l), .int .i64 p0.at_]], w0⟩), [])] rfl rfl rfl (congrArg PV.bool c2) (all1 (VRd.ntl (rd_nilPtr rfl)) all0) ?_
        refine dops_takeW [((low0.set q0 ⟨51, 2, [.agg [.vs 1 (List.map (PV.int .u8) p0.l), .int .i64 p0.at_]], w0⟩), [])] rfl rfl rfl (congrArg PV.bool c2) (all1 (VRd.ntl (rd_fieldAddr rfl tf_51_1 ts_3 (by decide))) all0) ?_
        refine dops_takeW [((low0.set q0 ⟨51, 2, [.agg [.vs 1 (List.map (PV.int .u8) p0.l), .int .i64 p0.at_]], w0⟩), [])] rfl rfl rfl (congrArg PV.bool c2) (all1 (VRd.ntl (rd_load1 rfl (getO_set hq0) rfl ta_3 rfl)) all0) ?_
        refine dops_takeW [((low0.set q0 ⟨51, 2, [.agg [.vs 1 (List.map (PV.int .u8) p0.l), .int .i64 p0.at_]], w0⟩), [])] rfl rfl rfl (congrArg PV.bool c2) (all1 (VRd.ntl (rd_mvP rfl)) all0) ?_
        refine dops_takeW [((low0.set q0 ⟨51, 2, [.agg [.vs 1 (List.map (PV.int .u8) p0.l), .int .i64 p0.at_]], w0⟩), [])] rfl rfl rfl (congrArg PV.bool c2) (all1 (VRd.ntl (rd_nilPtr rfl)) all0) ?_
        refine dops_takeW [((low0.set q0 ⟨51, 2, [.agg [.vs 1 (List.map (PV.int .u8) p0.l), .int .i64 p0.at_]], w0⟩), [])] rfl rfl rfl (congrArg PV.bool c2) (all1 (VRd.ntl (rd_fieldAddr rfl tf_51_0 ts_22 (by decide))) all0) ?_
        refine dops_takeW [((low0.set q0 ⟨51, 2, [.agg [.vs 1 (List.map (PV.int .u8) p0.l), .int .i64 p0.at_]], w0⟩), [])] rfl rfl rfl (congrArg PV.bool c2) (all1 (VRd.ntl (rd_load1 rfl (getO_set hq0) rfl ta_22 rfl)) all0) ?_
        refine dops_takeW [((low0.set q0 ⟨51, 2, [.agg [.vs 1 (List.map (PV.int .u8) p0.l), .int .i64 p0.at_]], w0⟩), [])] rfl rfl rfl (congrArg PV.bool c2) (all1 (VRd.ntl (rd_to (rd_lenV rfl rfl te_22) (congrArg (fun n : Nat => PV.int .i64 (n : Int)) (List.length_map _)))) all0) ?_
        refine dops_takeW [((low0.set q0 ⟨51, 2, [.agg [.vs 1 (List.map (PV.int .u8) p0.l), .int .i64 p0.at_]], w0⟩), [])] rfl rfl rfl (congrArg PV.bool c2) (all1 (VRd.ntl (rd_geq rfl rfl)) all0) ?_
        refine dops_rdW [((low0.set q0 ⟨51, 2, [.agg [.vs 1 (List.map (PV.int .u8) p0.l), .int .i64 p0.at_]], w0⟩), [])] rfl rfl (all1 (VRd.ntl (rd_pickF (congrArg PV.bool c2) rfl)) all0) ?_
        refine dops_nil ?_
        obtain rfl := Option.some.inj hF
        refine onlyE ?_
        exact weak_sub ⟨rfl, rfl, rfl, trivial⟩
    · rintro _ _ _ _ ⟨rfl, hw⟩
      refine ⟨_, _, _, hw, ?_⟩
      refine vwp_cond rfl (fun c3 => ?_) (fun c3 => ?_)
      · have hF := bifT c3 hF
        refine vwp_seq ?_
        refine vwp_region ?_
        refine vops_rd (rd_asI rfl) rfl ?_
        refine vops_nil ?_
        refine vwp_ret ?_
        obtain rfl := Option.some.inj hF
        refine fnR ?_
        exact weak_sub ⟨rfl, trivial⟩
      · have hF := bifF c3 hF
        refine vwp_skip ?_
        refine vwp_seq ?_
        refine vwp_region ?_
        refine vops_rd (rd_mvP rfl) rfl ?_
        refine vops_rd (rd_nilPtr rfl) rfl ?_
        refine vops_rd (rd_fieldAddr rfl tf_51_1 ts_3 (by decide)) rfl ?_
        refine vops_rd (rd_load1 rfl (getO_set hq0) rfl ta_3 rfl) rfl ?_
        refine vops_rd (rd_add rfl rfl rfl) rfl ?_
        refine vops_rd (rd_nilPtr rfl) rfl ?_
        refine vops_rd (rd_fieldAddr rfl tf_51_1 ts_3 (by decide)) rfl ?_
        refine vops_efE (vef_store (p := .int .i64 (IntKind.i64.wrap (p0.at_ + 1))) (e' := .agg [.vs 1 (List.map (PV.int .u8) p0.l), .int .i64 (IntKind.i64.wrap (p0.at_ + 1))]) rfl (getO_set hq0) rfl rfl ts_3 rfl (nt_ne rfl) rfl (Nat.le_of_ble_eq_true rfl) rfl (setO_set hq0 (ltObj_es ⟨(lt_agg ⟨.vs _ _, .int _ _, trivial⟩), trivial⟩))) rfl ?_
        refine vops_nil ?_
        refine vwp_seq ?_
        obtain ⟨x4, h5, hF⟩ := bnd hF
        refine vwp_drawn [[], [0], [0, 1], [0, 1, 2], [], [4], [4, 5], [4, 5, 6], [4, 5, 6, 7], [0, 1, 2, 3, 4, 5, 6, 7, 8], [0, 1, 2, 3, 4, 5, 6, 7, 8, 9], [0, 1, 2, 3, 4, 5, 6, 7, 8, 9, 10], [0, 1, 2, 3, 4, 5, 6, 7, 8, 9, 10, 11]] [false, false, false, false, false, false, false, false, false, false, false, false, false] [((low0.set q0 ⟨51, 2, [.agg [.vs 1 (List.map (PV.int .u8) p0.l), .int .i64 (IntKind.i64.wrap (p0.at_ + 1))]], w0⟩), [])] mixed (by kernel_rfl) rfl (lenAll (all1 len_set2 all0)) rfl ((low0.set q0 ⟨51, 2, [.agg [.vs 1 (List.map (PV.int .u8) p0.l), .int .i64 (IntKind.i64.wrap (p0.at_ + 1))]], w0⟩), []) rfl rfl ?_
        refine dops_rdW [((low0.set q0 ⟨51, 2, [.agg [.vs 1 (List.map (PV.int .u8) p0.l), .int .i64 (IntKind.i64.wrap (p0.at_ + 1))]], w0⟩), [])] rfl rfl (all1 (VRd.ntl (rd_mvP rfl)) all0) ?_
        refine dops_rdW [((low0.set q0 ⟨51, 2, [.agg [.vs 1 (List.map (PV.int .u8) p0.l), .int .i64 (IntKind.i64.wrap (p0.at_ + 1))]], w0⟩), [])] rfl rfl (all1 (VRd.ntl (rd_nilPtr rfl)) all0) ?_
        refine dops_rdW [((low0.set q0 ⟨51, 2, [.agg [.vs 1 (List.map (PV.int .u8) p0.l), .int .i64 (IntKind.i64.wrap (p0.at_ + 1))]], w0⟩), [])] rfl rfl (all1 (VRd.ntl (rd_fieldAddr rfl tf_51_0 ts_22 (by decide))) all0) ?_
        refine dops_rdW [((low0.set q0 ⟨51, 2, [.agg [.vs 1 (List.map (PV.int .u8) p0.l), .int .i64 (IntKind.i64.wrap (p0.at_ + 1))]], w0⟩), [])] rfl rfl (all1 (VRd.ntl (rd_load1 rfl (getO_set hq0) rfl ta_22 rfl)) all0) ?_
        refine dops_rdW [((low0.set q0 ⟨51, 2, [.agg [.vs 1 (List.map (PV.int .u8) p0.l), .int .i64 (IntKind.i64.wrap (p0.at_ + 1))]], w0⟩), [])] rfl rfl (all1 (VRd.ntl (rd_mvP rfl)) all0) ?_
        refine dops_rdW [((low0.set q0 ⟨51, 2, [.agg [.vs 1 (List.map (PV.int .u8) p0.l), .int .i64 (IntKind.i64.wrap (p0.at_ + 1))]], w0⟩), [])] rfl rfl (all1 (VRd.ntl (rd_nilPtr rfl)) all0) ?_
        refine dops_rdW [((low0.set q0 ⟨51, 2, [.agg [.vs 1 (List.map (PV.int .u8) p0.l), .int .i64 (IntKind.i64.wrap (p0.at_ + 1))]], w0⟩), [])] rfl rfl (all1 (VRd.ntl (rd_fieldAddr rfl tf_51_1 ts_3 (by decide))) all0) ?_
        refine dops_rdW [((low0.set q0 ⟨51, 2, [.agg [.vs 1 (List.map (PV.int .u8) p0.l), .int .i64 (IntKind.i64.wrap (p0.at_ + 1))]], w0⟩), [])] rfl rfl (all1 (VRd.ntl (rd_load1 rfl (getO_set hq0) rfl ta_3 rfl)) all0) ?_
        refine dops_rdW [((low0.set q0 ⟨51, 2, [.agg [.vs 1 (List.map (PV.int .u8) p0.l), .int .i64 (IntKind.i64.wrap (p0.at_ + 1))]], w0⟩), [])] rfl rfl (all1 (VRd.ntl (rd_sub rfl rfl rfl)) all0) ?_
        refine dops_rdW [((low0.set q0 ⟨51, 2, [.agg [.vs 1 (List.map (PV.int .u8) p0.l), .int .i64 (IntKind.i64.wrap (p0.at_ + 1))]], w0⟩), [])] rfl rfl (all1 (VRd.ntl (rd_to (rd_ixV rfl rfl h5 te_22 ts_5) (v' := .vptr [.int .u8 x4] 0) rfl)) all0) ?_
        refine dops_rdW [((low0.set q0 ⟨51, 2, [.agg [.vs 1 (List.map (PV.int .u8) p0.l), .int .i64 (IntKind.i64.wrap (p0.at_ + 1))]], w0⟩), [])] rfl rfl (all1 (VRd.ntl (rd_loadV1 rfl ta_5 rfl)) all0) ?_
        refine dops_rdW [((low0.set q0 ⟨51, 2, [.agg [.vs 1 (List.map (PV.int .u8) p0.l), .int .i64 (IntKind.i64.wrap (p0.at_ + 1))]], w0⟩), [])] rfl rfl (all1 (VRd.ntl (rd_conv rfl us_5 ti_3 rfl)) all0) ?_
        refine dops_rdW [((low0.set q0 ⟨51, 2, [.agg [.vs 1 (List.map (PV.int .u8) p0.l), .int .i64 (IntKind.i64.wrap (p0.at_ + 1))]], w0⟩), [])] rfl rfl (all1 (VRd.ntl (rd_asI rfl)) all0) ?_
        refine dops_nil ?_
        refine vwp_seq ?_
        refine vwp_seq ?_
        obtain ⟨o6, ho6, hF⟩ := bnd hF
        refine vwp_monoW (Q' := (fun o6 => OnlyE .normal (fun E' lw lc => Weak E' lw lc [(0, .ptr q0 w0 0 0), (1, .int .i64 p1), (5, .int .i64 (IntKind.i64.wrap x4)), (52, .bool o6)] (low0.set q0 ⟨51, 2, [.agg [.vs 1 (List.map (PV.int .u8) p0.l), .int .i64 (IntKind.i64.wrap (p0.at_ + 1))]], w0⟩) [])) o6) ?_ ?_
        · replace hF := ho6
          rcases Bool.eq_false_or_eq_true (decide (256 < p1)) with c7 | c7
          · have hF := bifT c7 hF
            refine vwp_drawn [[], [0], [0, 1], [0, 1, 2], [0, 1, 2, 3], [0, 1, 2, 3, 4], [0, 1, 2, 3, 4, 5], [0, 1, 2], [0, 1, 2, 7], [0, 1, 2, 7, 8], [0, 1, 2, 7, 8, 9], [0, 1, 2, 7, 8, 9, 10], [0, 1, 2, 3, 4, 5, 6, 7, 8, 9, 10, 11], [0, 1, 2, 3, 4, 5, 6, 7, 8, 9, 10, 11, 12]] [false, false, false, false, false, false, false, false, false, false, false, false, false, false] [((low0.set q0 ⟨51, 2, [.agg [.vs 1 (List.map (PV.int .u8) p0.l), .int .i64 (IntKind.i64.wrap (p0.at_ + 1))]], w0⟩), [])] mixed (by kernel_rfl) rfl (lenAll (all1 len_set2 all0)) rfl ((low0.set q0 ⟨51, 2, [.agg [.vs 1 (List.map (PV.int .u8) p0.l), .int .i64 (IntKind.i64.wrap (p0.at_ + 1))]], w0⟩), []) rfl rfl ?_
            refine dops_rdW [((low0.set q0 ⟨51, 2, [.agg [.vs 1 (List.map (PV.int .u8) p0.l), .int .i64 (IntKind.i64.wrap (p0.at_ + 1))]], w0⟩), [])] rfl rfl (all1 (VRd.ntl (rd_mvI rfl)) all0) ?_
            refine dops_rdW [((low0.set q0 ⟨51, 2, [.agg [.vs 1 (List.map (PV.int .u8) p0.l), .int .i64 (IntKind.i64.wrap (p0.at_ + 1))]], w0⟩), [])] rfl rfl (all1 (VRd.ntl (rd_gtr rfl rfl)) all0) ?_
            refine dops_rdW [((low0.set q0 ⟨51, 2, [.agg [.vs 1 (List.map (PV.int .u8) p0.l), .int .i64 (IntKind.i64.wrap (p0.at_ + 1))]], w0⟩), [])] rfl rfl (all1 (VRd.ntl (rd_mvB rfl)) all0) ?_
            refine dops_takeW [((low0.set q0 ⟨51, 2, [.agg [.vs 1 (List.map (PV.int .u8) p0.l), .int .i64 (IntKind.i64.wrap (p0.at_ + 1))]], w0⟩), [])] rfl rfl rfl (congrArg PV.bool c7) (all1 (VRd.ntl (rd_mvP rfl)) all0) ?_
            refine dops_takeW [((low0.set q0 ⟨51, 2, [.agg [.vs 1 (List.map (PV.int .u8) p0.l), .int .i64 (IntKind.i64.wrap (p0.at_ + 1))]], w0⟩), [])] rfl rfl rfl (congrArg PV.bool c7) (all1 (VRd.ntl (rd_nilPtr rfl)) all0) ?_
            refine dops_takeW [((low0.set q0 ⟨51, 2, [.agg [.vs 1 (List.map (PV.int .u8) p0.l), .int .i64 (IntKind.i64.wrap (p0.at_ + 1))]], w0⟩), [])] rfl rfl rfl (congrArg PV.bool c7) (all1 (VRd.ntl (rd_fieldAddr rfl tf_51_1 ts_3 (by decide))) all0) ?_
            refine dops_takeW [((low0.set q0 ⟨51, 2, [.agg [.vs 1 (List.map (PV.int .u8) p0.l), .int .i64 (IntKind.i64.wrap (p0.at_ + 1))]], w0⟩), [])] rfl rfl rfl (congrArg PV.bool c7) (all1 (VRd.ntl (rd_load1 rfl (getO_set hq0) rfl ta_3 rfl)) all0) ?_
            refine dops_takeW [((low0.set q0 ⟨51, 2, [.agg [.vs 1 (List.map (PV.int .u8) p0.l), .int .i64 (IntKind.i64.wrap (p0.at_ + 1))]], w0⟩), [])] rfl rfl rfl (congrArg PV.bool c7) (all1 (VRd.ntl (rd_mvP rfl)) all0) ?_
            refine dops_takeW [((low0.set q0 ⟨51, 2, [.agg [.vs 1 (List.map (PV.int .u8) p0.l), .int .i64 (IntKind.i64.wrap (p0.at_ + 1))]], w0⟩), [])] rfl rfl rfl (congrArg PV.bool c7) (all1 (VRd.ntl (rd_nilPtr rfl)) all0) ?_
            refine dops_takeW [((low0.set q0 ⟨51, 2, [.agg [.vs 1 (List.map (PV.int .u8) p0.l), .int .i64 (IntKind.i64.wrap (p0.at_ + 1))]], w0⟩), [])] rfl rfl rfl (congrArg PV.bool c7) (all1 (VRd.ntl (rd_fieldAddr rfl tf_51_0 ts_22 (by decide))) all0) ?_
            refine dops_takeW [((low0.set q0 ⟨51, 2, [.agg [.vs 1 (List.map (PV.int .u8) p0.l), .int .i64 (IntKind.i64.wrap (p0.at_ + 1))]], w0⟩), [])] rfl rfl rfl (congrArg PV.bool c7) (all1 (VRd.ntl (rd_load1 rfl (getO_set hq0) rfl ta_22 rfl)) all0) ?_
            refine dops_takeW [((low0.set q0 ⟨51, 2, [.agg [.vs 1 (List.map (PV.int .u8) p0.l), .int .i64 (IntKind.i64.wrap (p0.at_ + 1))]], w0⟩), [])] rfl rfl rfl (congrArg PV.bool c7) (all1 (VRd.ntl (rd_to (rd_lenV rfl rfl te_22) (congrArg (fun n : Nat => PV.int .i64 (n : Int)) (List.length_map _)))) all0) ?_
            refine dops_takeW [((low0.set q0 ⟨51, 2, [.agg [.vs 1 (List.map (PV.int .u8) p0.l), .int .i64 (IntKind.i64.wrap (p0.at_ + 1))]], w0⟩), [])] rfl rfl rfl (congrArg PV.bool c7) (all1 (VRd.ntl (rd_lss rfl rfl)) all0) ?_
            refine dops_rdW [((low0.set q0 ⟨51, 2, [.agg [.vs 1 (List.map (PV.int .u8) p0.l), .int .i64 (IntKind.i64.wrap (p0.at_ + 1))]], w0⟩), [])] rfl rfl (all1 (VRd.ntl (rd_pickT (congrArg PV.bool c7) rfl)) all0) ?_
            refine dops_nil ?_
            obtain rfl := Option.some.inj hF
            refine onlyE ?_
            exact weak_sub ⟨rfl, rfl, rfl, rfl, trivial⟩
          · have hF := bifF c7 hF
            refine vwp_drawn [[], [0], [0, 1], [0, 1, 2], [0, 1, 2, 3], [0, 1, 2, 3, 4], [0, 1, 2, 3, 4, 5], [0, 1, 2], [0, 1, 2, 7], [0, 1, 2, 7, 8], [0, 1, 2, 7, 8, 9], [0, 1, 2, 7, 8, 9, 10], [0, 1, 2, 3, 4, 5, 6, 7, 8, 9, 10, 11], [0, 1, 2, 3, 4, 5, 6, 7, 8, 9, 10, 11, 12]] [false, false, false, false, false, false, false, false, false, false, false, false, false, false] [((low0.set q0 ⟨51, 2, [.agg [.vs 1 (List.map (PV.int .u8) p0.l), .int .i64 (IntKind.i64.wrap (p0.at_ + 1))]], w0⟩), [])] mixed (by kernel_rfl) rfl (lenAll (all1 len_set2 all0)) rfl ((low0.set q0 ⟨51, 2, [.agg [.vs 1 (List.map (PV.int .u8) p0.l), .int .i64 (IntKind.i64.wrap (p0.at_ + 1))]], w0⟩), []) rfl rfl ?_
            refine dops_rdW [((low0.set q0 ⟨51, 2, [.agg [.vs 1 (List.map (PV.int .u8) p0.l), .int .i64 (IntKind.i64.wrap (p0.at_ + 1))]], w0⟩), [])] rfl rfl (all1 (VRd.ntl (rd_mvI rfl)) all0) ?_
            refine dops_rdW [((low0.set q0 ⟨51, 2, [.agg [.vs 1 (List.map (PV.int .u8) p0.l), .int .i64 (IntKind.i64.wrap (p0.at_ + 1))]], w0⟩), [])] rfl rfl (all1 (VRd.ntl (rd_gtr rfl rfl)) all0) ?_
            refine dops_rdW [((low0.set q0 ⟨51, 2, [.agg [.vs 1 (List.map (PV.int .u8) p0.l), .int .i64 (IntKind.i64.wrap (p0.at_ + 1))]], w0⟩), [])] rfl rfl (all1 (VRd.ntl (rd_mvB rfl)) all0) ?_
            refine dops_skip rfl rfl rfl (neF c7) ?_
            refine dops_skip rfl rfl rfl (neF c7) ?_
            refine dops_skip rfl rfl rfl (neF c7) ?_
            refine dops_skip rfl rfl rfl (neF c7) ?_
            refine dops_skip rfl rfl rfl (neF c7) ?_
            refine dops_skip rfl rfl rfl (neF c7) ?_
            refine dops_skip rfl rfl rfl (neF c7) ?_
            refine dops_skip rfl rfl rfl (neF c7) ?_
            refine dops_skip rfl rfl rfl (neF c7) ?_
            refine dops_skip rfl rfl rfl (neF c7) ?_
            refine dops_rdW [((low0.set q0 ⟨51, 2, [.agg [.vs 1 (List.map (PV.int .u8) p0.l), .int .i64 (IntKind.i64.wrap (p0.at_ + 1))]], w0⟩), [])] rfl rfl (all1 (VRd.ntl (rd_pickF (congrArg PV.bool c7) rfl)) all0) ?_
            refine dops_nil ?_
            obtain rfl := Option.some.inj hF
            refine onlyE ?_
            exact weak_sub ⟨rfl, rfl, rfl, rfl, trivial⟩
        · rintro _ _ _ _ ⟨rfl, hw⟩
          refine ⟨_, _, _, hw, ?_⟩
          obtain ⟨o8, ho8, hF⟩ := bnd hF
          refine vwp_monoW (Q' := (fun o8 => OnlyE .normal (fun E' lw lc => Weak E' lw lc [(1, .int .i64 p1), (5, .int .i64 o8.1)] (low0.set q0 ⟨51, 2, [.agg [.vs 1 (List.map (PV.int .u8) p0.l), .int .i64 o8.2]], w0⟩) [])) o8) ?_ ?_
          · replace hF := ho8
            refine vwp_cond rfl (fun c9 => ?_) (fun c9 => ?_)
            · have hF := bifT c9 hF
              refine vwp_seq ?_
              obtain ⟨x10, h11, hF⟩ := bnd hF
              refine vwp_drawn [[], [0], [], [2], [2, 3], [2, 3, 4], [], [6], [6, 7], [6, 7, 8], [2, 3, 4, 5, 6, 7, 8, 9], [2, 3, 4, 5, 6, 7, 8, 9, 10], [2, 3, 4, 5, 6, 7, 8, 9, 10, 11], [0, 1, 2, 3, 4, 5, 6, 7, 8, 9, 10, 11, 12], [0, 1, 2, 3, 4, 5, 6, 7, 8, 9, 10, 11, 12, 13]] [false, false, false, false, false, false, false, false, false, false, false, false, false, false, false] [((low0.set q0 ⟨51, 2, [.agg [.vs 1 (List.map (PV.int .u8) p0.l), .int .i64 (IntKind.i64.wrap (p0.at_ + 1))]], w0⟩), [])] mixed (by kernel_rfl) rfl (lenAll (all1 len_set2 all0)) rfl ((low0.set q0 ⟨51, 2, [.agg [.vs 1 (List.map (PV.int .u8) p0.l), .int .i64 (IntKind.i64.wrap (p0.at_ + 1))]], w0⟩), []) rfl rfl ?_
              refine dops_rdW [((low0.set q0 ⟨51, 2, [.agg [.vs 1 (List.map (PV.int .u8) p0.l), .int .i64 (IntKind.i64.wrap (p0.at_ + 1))]], w0⟩), [])] rfl rfl (all1 (VRd.ntl (rd_mvI rfl)) all0) ?_
              refine dops_rdW [((low0.set q0 ⟨51, 2, [.agg [.vs 1 (List.map (PV.int .u8) p0.l), .int .i64 (IntKind.i64.wrap (p0.at_ + 1))]], w0⟩), [])] rfl rfl (all1 (VRd.ntl (rd_mul rfl rfl rfl)) all0) ?_
              refine dops_rdW [((low0.set q0 ⟨51, 2, [.agg [.vs 1 (List.map (PV.int .u8) p0.l), .int .i64 (IntKind.i64.wrap (p0.at_ + 1))]], w0⟩), [])] rfl rfl (all1 (VRd.ntl (rd_mvP rfl)) all0) ?_
              refine dops_rdW [((low0.set q0 ⟨51, 2, [.agg [.vs 1 (List.map (PV.int .u8) p0.l), .int .i64 (IntKind.i64.wrap (p0.at_ + 1))]], w0⟩), [])] rfl rfl (all1 (VRd.ntl (rd_nilPtr rfl)) all0) ?_
              refine dops_rdW [((low0.set q0 ⟨51, 2, [.agg [.vs 1 (List.map (PV.int .u8) p0.l), .int .i64 (IntKind.i64.wrap (p0.at_ + 1))]], w0⟩), [])] rfl rfl (all1 (VRd.ntl (rd_fieldAddr rfl tf_51_0 ts_22 (by decide))) all0) ?_
              refine dops_rdW [((low0.set q0 ⟨51, 2, [.agg [.vs 1 (List.map (PV.int .u8) p0.l), .int .i64 (IntKind.i64.wrap (p0.at_ + 1))]], w0⟩), [])] rfl rfl (all1 (VRd.ntl (rd_load1 rfl (getO_set hq0) rfl ta_22 rfl)) all0) ?_
              refine dops_rdW [((low0.set q0 ⟨51, 2, [.agg [.vs 1 (List.map (PV.int .u8) p0.l), .int .i64 (IntKind.i64.wrap (p0.at_ + 1))]], w0⟩), [])] rfl rfl (all1 (VRd.ntl (rd_mvP rfl)) all0) ?_
              refine dops_rdW [((low0.set q0 ⟨51, 2, [.agg [.vs 1 (List.map (PV.int .u8) p0.l), .int .i64 (IntKind.i64.wrap (p0.at_ + 1))]], w0⟩), [])] rfl rfl (all1 (VRd.ntl (rd_nilPtr rfl)) all0) ?_
              refine dops_rdW [((low0.set q0 ⟨51, 2, [.agg [.vs 1 (List.map (PV.int .u8) p0.l), .int .i64 (IntKind.i64.wrap (p0.at_ + 1))]], w0⟩), [])] rfl rfl (all1 (VRd.ntl (rd_fieldAddr rfl tf_51_1 ts_3 (by decide))) all0) ?_
              refine dops_rdW [((low0.set q0 ⟨51, 2, [.agg [.vs 1 (List.map (PV.int .u8) p0.l), .int .i64 (IntKind.i64.wrap (p0.at_ + 1))]], w0⟩), [])] rfl rfl (all1 (VRd.ntl (rd_load1 rfl (getO_set hq0) rfl ta_3 rfl)) all0) ?_
              refine dops_rdW [((low0.set q0 ⟨51, 2, [.agg [.vs 1 (List.map (PV.int .u8) p0.l), .int .i64 (IntKind.i64.wrap (p0.at_ + 1))]], w0⟩), [])] rfl rfl (all1 (VRd.ntl (rd_to (rd_ixV rfl rfl h11 te_22 ts_5) (v' := .vptr [.int .u8 x10] 0) rfl)) all0) ?_
              refine dops_rdW [((low0.set q0 ⟨51, 2, [.agg [.vs 1 (List.map (PV.int .u8) p0.l), .int .i64 (IntKind.i64.wrap (p0.at_ + 1))]], w0⟩), [])] rfl rfl (all1 (VRd.ntl (rd_loadV1 rfl ta_5 rfl)) all0) ?_
              refine dops_rdW [((low0.set q0 ⟨51, 2, [.agg [.vs 1 (List.map (PV.int .u8) p0.l), .int .i64 (IntKind.i64.wrap (p0.at_ + 1))]], w0⟩), [])] rfl rfl (all1 (VRd.ntl (rd_conv rfl us_5 ti_3 rfl)) all0) ?_
              refine dops_rdW [((low0.set q0 ⟨51, 2, [.agg [.vs 1 (List.map (PV.int .u8) p0.l), .int .i64 (IntKind.i64.wrap (p0.at_ + 1))]], w0⟩), [])] rfl rfl (all1 (VRd.ntl (rd_add rfl rfl rfl)) all0) ?_
              refine dops_rdW [((low0.set q0 ⟨51, 2, [.agg [.vs 1 (List.map (PV.int .u8) p0.l), .int .i64 (IntKind.i64.wrap (p0.at_ + 1))]], w0⟩), [])] rfl rfl (all1 (VRd.ntl (rd_asI rfl)) all0) ?_
              refine dops_nil ?_
              refine vwp_region ?_
              refine vops_rd (rd_mvP rfl) rfl ?_
              refine vops_rd (rd_nilPtr rfl) rfl ?_
              refine vops_rd (rd_fieldAddr rfl tf_51_1 ts_3 (by decide)) rfl ?_
              refine vops_rd (rd_load1 rfl (getO_set hq0) rfl ta_3 rfl) rfl ?_
              refine vops_rd (rd_add rfl rfl rfl) rfl ?_
              refine vops_rd (rd_nilPtr rfl) rfl ?_
              refine vops_rd (rd_fieldAddr rfl tf_51_1 ts_3 (by decide)) rfl ?_
              refine vops_efE (vef_store (p := .int .i64 (IntKind.i64.wrap ((IntKind.i64.wrap (p0.at_ + 1)) + 1))) (e' := .agg [.vs 1 (List.map (PV.int .u8) p0.l), .int .i64 (IntKind.i64.wrap ((IntKind.i64.wrap (p0.at_ + 1)) + 1))]) rfl (getO_set hq0) rfl rfl ts_3 rfl (nt_ne rfl) rfl (Nat.le_of_ble_eq_true rfl) rfl (setO_set hq0 (ltObj_es ⟨(lt_agg ⟨.vs _ _, .int _ _, trivial⟩), trivial⟩))) rfl ?_
              refine vops_nil ?_
              obtain rfl := Option.some.inj hF
              refine onlyE ?_
              exact weak_sub ⟨rfl, rfl, trivial⟩
            · have hF := bifF c9 hF
              refine vwp_skip ?_
              obtain rfl := Option.some.inj hF
              refine onlyE ?_
              exact weak_sub ⟨rfl, rfl, trivial⟩
          · rintro _ _ _ _ ⟨rfl, hw⟩
            refine ⟨_, _, _, hw, ?_⟩
            refine vwp_seq ?_
            refine vwp_region ?_
            obtain ⟨x12, h13, hF⟩ := bnd hF
            refine vops_rd (rd_mvI rfl) rfl ?_
            refine vops_rd (rd_mvI rfl) rfl ?_
            refine vops_rd (rd_rem rfl rfl (remI_some h13).1 (remI_some h13).2) rfl ?_
            refine vops_rd (rd_asI rfl) rfl ?_
            refine vops_nil ?_
            refine vwp_ret ?_
            obtain rfl := Option.some.inj hF
            refine fnR ?_
            exact weak_sub ⟨rfl, trivial⟩
  · rintro _ _ _ _ ⟨he, hw⟩
    refine ⟨_, _, _, hw, ?_⟩
    exact bodyQ_pure he [.int .i64 r.2] ⟨rfl, trivial⟩ (.int _ _) ⟨rfl, rfl⟩

theorem F_draw_Codes_Next_ok {p0 : T_draw_Codes} {p1 : Int} {r : T_draw_Codes × Int} (hF : F_draw_Codes_Next p0 p1 = some r) {low : List AObj} {q0 w0 : Nat} (hq0 : low[q0]? = some ⟨51, 2, [.agg [.vs 1 (List.map (PV.int .u8) p0.l), .int .i64 p0.at_]], w0⟩) :
    VCalls Try.prog 20 [.ptr q0 w0 0 0, .int .i64 p1] low fun x low' => x = .int .i64 r.2 ∧ low' = low.set q0 ⟨51, 2, [.agg [.vs 1 (List.map (PV.int .u8) r.1.l), .int .i64 r.1.at_]], w0⟩ := by
  obtain ⟨h1, h2⟩ := low_set hq0
  have h := F_draw_Codes_Next_ok0 hF (w0 := w0) h1
  rw [← h2] at h
  exact h

theorem F_draw_Codes_Range_ok0 {p0 : T_draw_Codes} {p1 : Int} {p2 : Int} {r : T_draw_Codes × Int} (hF : F_draw_Codes_Range p0 p1 p2 = some r) {low0 : List AObj} {q0 w0 : Nat} (hq0 : q0 < low0.length) :
    VCalls Try.prog 15 [.ptr q0 w0 0 0, .int .i64 p1, .int .i64 p2] (low0.set q0 ⟨51, 2, [.agg [.vs 1 (List.map (PV.int .u8) p0.l), .int .i64 p0.at_]], w0⟩) fun x low' => x = .int .i64 r.2 ∧ low' = low0.set q0 ⟨51, 2, [.agg [.vs 1 (List.map (PV.int .u8) r.1.l), .int .i64 r.1.at_]], w0⟩ := by
  refine vcalls_of_body (nt := 15) (rs := [.tmp 6]) Try.func15 rfl rfl (Nat.le_of_ble_eq_true rfl) rfl ?_
  refine vwp_monoW (Q' := FnE (fun E' lw lc => Weak E' lw lc [(6, .int .i64 r.2)] (low0.set q0 ⟨51, 2, [.agg [.vs 1 (List.map (PV.int .u8) r.1.l), .int .i64 r.1.at_]], w0⟩) [])) ?_ ?_
  · unfold F_draw_Codes_Range at hF
    refine vwp_seq ?_
    refine vwp_region ?_
    refine vops_rd (rd_asI rfl) rfl ?_
    refine vops_nil ?_
    refine vwp_seq ?_
    refine vwp_region ?_
    obtain ⟨x1, h2, hF⟩ := bnd hF
    refine vops_rd (rd_mvI rfl) rfl ?_
    refine vops_rd (rd_mvP rfl) rfl ?_
    refine vops_rd (rd_mvI rfl) rfl ?_
    refine vops_rd (rd_mvI rfl) rfl ?_
    refine vops_rd (rd_sub rfl rfl rfl) rfl ?_
    refine vops_rd (rd_add rfl rfl rfl) rfl ?_
    refine vops_efE (vef_callL hq0 (o' := ⟨51, 2, [.agg [.vs 1 (List.map (PV.int .u8) x1.1.l), .int .i64 x1.1.at_]], w0⟩) (ltObj_es ⟨(lt_agg ⟨.vs _ _, .int _ _, trivial⟩), trivial⟩) rfl Try.call20 (F_draw_Codes_Next_ok h2 (get_low hq0))) rfl ?_
    refine vops_rd (rd_add rfl rfl rfl) rfl ?_
    refine vops_rd (rd_asI rfl) rfl ?_
    refine vops_nil ?_
    refine vwp_ret ?_
    obtain rfl := Option.some.inj hF
    refine fnR ?_
    exact weak_sub ⟨rfl, trivial⟩
  · rintro _ _ _ _ ⟨he, hw⟩
    refine ⟨_, _, _, hw, ?_⟩
    exact bodyQ_pure he [.int .i64 r.2] ⟨rfl, trivial⟩ (.int _ _) ⟨rfl, rfl⟩

theorem F_draw_Codes_Range_ok {p0 : T_draw_Codes} {p1 : Int} {p2 : Int} {r : T_draw_Codes × Int} (hF : F_draw_Codes_Range p0 p1 p2 = some r) {low : List AObj} {q0 w0 : Nat} (hq0 : low[q0]? = some ⟨51, 2, [.agg [.vs 1 (List.map (PV.int .u8) p0.l), .int .i64 p0.at_]], w0⟩) :
    VCalls Try.prog 15 [.ptr q0 w0 0 0, .int .i64 p1, .int .i64 p2] low fun x low' => x = .int .i64 r.2 ∧ low' = low.set q0 ⟨51, 2, [.agg [.vs 1 (List.map (PV.int .u8) r.1.l), .int .i64 r.1.at_]], w0⟩ := by
  obtain ⟨h1, h2⟩ := low_set hq0
  have h := F_draw_Codes_Range_ok0 hF (w0 := w0) h1
  rw [← h2] at h
  exact h

theorem F_draw_Codes_One_ok0 {p0 : T_draw_Codes} {p1 : Int} {r : T_draw_Codes × Bool} (hF : F_draw_Codes_One p0 p1 = some r) {low0 : List AObj} {q0 w0 : Nat} (hq0 : q0 < low0.length) :
    VCalls Try.prog 21 [.ptr q0 w0 0 0, .int .i64 p1] (low0.set q0 ⟨51, 2, [.agg [.vs 1 (List.map (PV.int .u8) p0.l), .int .i64 p0.at_]], w0⟩) fun x low' => x = .bool r.2 ∧ low' = low0.set q0 ⟨51, 2, [.agg [.vs 1 (List.map (PV.int .u8) r.1.l), .int .i64 r.1.at_]], w0⟩ := by
  refine vcalls_of_body (nt := 11) (rs := [.tmp 4]) Try.func21 rfl rfl (Nat.le_of_ble_eq_true rfl) rfl ?_
  refine vwp_monoW (Q' := FnE (fun E' lw lc => Weak E' lw lc [(4, .bool r.2)] (low0.set q0 ⟨51, 2, [.agg [.vs 1 (List.map (PV.int .u8) r.1.l), .int .i64 r.1.at_]], w0⟩) [])) ?_ ?_
  · unfold F_draw_Codes_One at hF
    refine vwp_seq ?_
    refine vwp_region ?_
    refine vops_rd (rd_asB rfl) rfl ?_
    refine vops_nil ?_
    refine vwp_seq ?_
    refine vwp_region ?_
    obtain ⟨x1, h2, hF⟩ := bnd hF
    refine vops_rd (rd_mvP rfl) rfl ?_
    refine vops_rd (rd_mvI rfl) rfl ?_
    refine vops_efE (vef_callL hq0 (o' := ⟨51, 2, [.agg [.vs 1 (List.map (PV.int .u8) x1.1.l), .int .i64 x1.1.at_]], w0⟩) (ltObj_es ⟨(lt_agg ⟨.vs _ _, .int _ _, trivial⟩), trivial⟩) rfl Try.call20 (F_draw_Codes_Next_ok h2 (get_low hq0))) rfl ?_
    refine vops_rd (rd_mvI rfl) rfl ?_
    refine vops_rd (rd_sub rfl rfl rfl) rfl ?_
    refine vops_rd (rd_eql rfl rfl) rfl ?_
    refine vops_rd (rd_asB rfl) rfl ?_
    refine vops_nil ?_
    refine vwp_ret ?_
    obtain rfl := Option.some.inj hF
    refine fnR ?_
    exact weak_sub ⟨rfl, trivial⟩
  · rintro _ _ _ _ ⟨he, hw⟩
    refine ⟨_, _, _, hw, ?_⟩
    exact bodyQ_pure he [.bool r.2] ⟨rfl, trivial⟩ (.bool _) ⟨rfl, rfl⟩

theorem F_draw_Codes_One_ok {p0 : T_draw_Codes} {p1 : Int} {r : T_draw_Codes × Bool} (hF : F_draw_Codes_One p0 p1 = some r) {low : List AObj} {q0 w0 : Nat} (hq0 : low[q0]? = some ⟨51, 2, [.agg [.vs 1 (List.map (PV.int .u8) p0.l), .int .i64 p0.at_]], w0⟩) :
    VCalls Try.prog 21 [.ptr q0 w0 0 0, .int .i64 p1] low fun x low' => x = .bool r.2 ∧ low' = low.set q0 ⟨51, 2, [.agg [.vs 1 (List.map (PV.int .u8) r.1.l), .int .i64 r.1.at_]], w0⟩ := by
  obtain ⟨h1, h2⟩ := low_set hq0
  have h := F_draw_Codes_One_ok0 hF (w0 := w0) h1
  rw [← h2] at h
  exact h

theorem F_ref05_Nothing_ok  {r : T_Span} (hF : F_ref05_Nothing = some r) (low : List AObj) :
    VCalls Try.prog 18 [] low fun x low' => x = .agg [.int .i64 r.Low, .int .i64 r.High] ∧ low' = low := by
  refine vcalls_of_body (nt := 2) (rs := [.cell 0 24]) Try.func18 rfl rfl (Nat.le_of_ble_eq_true rfl) rfl ?_
  refine vwp_monoW (Q' := FnE (fun E' lw lc => Weak E' lw lc [(0, .ptr (low.length + 0) 0 0 0)] low [⟨24, 2, [.agg [.int .i64 r.Low, .int .i64 r.High]], 0⟩])) ?_ ?_
  · unfold F_ref05_Nothing at hF
    refine vwp_seq ?_
    refine vwp_region ?_
    refine vops_efE (vef_allocN rfl rfl tz_24 rfl rfl (Nat.succ_pos _) rfl) rfl ?_
    refine vops_nil ?_
    refine vwp_seq ?_
    refine vwp_region ?_
    refine vops_rd (rd_build (vs := [(0, .int .i64 (-1125899906842624)), (1, .int .i64 1125899906842624)]) (ds := [.int .i64 (-1125899906842624), .int .i64 1125899906842624]) tz_24 rfl rfl tp_24 ⟨rfl, rfl, rfl, rfl, trivial⟩ (nt_all2 rfl) rfl) rfl ?_
    refine vops_efE (vef_store (p := .agg [.int .i64 (-1125899906842624), .int .i64 1125899906842624]) (e' := .agg [.int .i64 (-1125899906842624), .int .i64 1125899906842624]) rfl (getO_N rfl rfl) rfl rfl ts_24 rfl (nt_ne rfl) rfl (Nat.le_of_ble_eq_true rfl) rfl (setO_N rfl rfl)) rfl ?_
    refine vops_nil ?_
    refine vwp_ret ?_
    obtain rfl := Option.some.inj hF
    refine fnR ?_
    exact weak_sub ⟨rfl, trivial⟩
  · rintro _ _ _ _ ⟨he, hw⟩
    refine ⟨_, _, _, hw, ?_⟩
    exact bodyQ_pure he [.agg [.int .i64 r.Low, .int .i64 r.High]] ⟨rd_loadN rfl (getO_N rfl rfl) rfl ta_24 ts_24 rfl rfl rfl, trivial⟩ ((lt_agg ⟨.int _ _, .int _ _, trivial⟩)) ⟨rfl, rfl⟩

theorem F_law06_measured_ok0 {p0 : T_draw_Codes} {r : T_draw_Codes × T_Measure} (hF : F_law06_measured p0 = some r) {low0 : List AObj} {q0 w0 : Nat} (hq0 : q0 < low0.length) :
    VCalls Try.prog 8 [.ptr q0 w0 0 0] (low0.set q0 ⟨51, 2, [.agg [.vs 1 (List.map (PV.int .u8) p0.l), .int .i64 p0.at_]], w0⟩) fun x low' => x = .agg [.int .i64 r.2.Sensor, .int .i64 r.2.Time, .int .i64 r.2.Span.Low, .int .i64 r.2.Span.High] ∧ low' = low0.set q0 ⟨51, 2, [.agg [.vs 1 (List.map (PV.int .u8) r.1.l), .int .i64 r.1.at_]], w0⟩ := by
  refine vcalls_of_body (nt := 28) (rs := [.cell 2 26]) Try.func8 rfl rfl (Nat.le_of_ble_eq_true rfl) rfl ?_
  refine vwp_monoW (Q' := FnE (fun E' lw lc => Weak E' lw lc [(2, .ptr (low0.length + 0) 0 0 0)] (low0.set q0 ⟨51, 2, [.agg [.vs 1 (List.map (PV.int .u8) r.1.l), .int .i64 r.1.at_]], w0⟩) [⟨26, 4, [.agg [.int .i64 r.2.Sensor, .int .i64 r.2.Time, .int .i64 r.2.Span.Low, .int .i64 r.2.Span.High]], 0⟩])) ?_ ?_
  · unfold F_law06_measured at hF
    refine vwp_seq ?_
    refine vwp_region ?_
    refine vops_efE (vef_allocN List.length_set rfl tz_26 rfl rfl (Nat.succ_pos _) rfl) rfl ?_
    refine vops_nil ?_
    refine vwp_seq ?_
    refine vwp_region ?_
    obtain ⟨x1, h2, hF⟩ := bnd hF
    obtain ⟨x3, h4, hF⟩ := bnd hF
    obtain ⟨x5, h6, hF⟩ := bnd hF
    refine vops_rd (rd_mvP rfl) rfl ?_
    refine vops_efE (vef_callL hq0 (o' := ⟨51, 2, [.agg [.vs 1 (List.map (PV.int .u8) x1.1.l), .int .i64 x1.1.at_]], w0⟩) (ltObj_es ⟨(lt_agg ⟨.vs _ _, .int _ _, trivial⟩), trivial⟩) rfl Try.call20 (F_draw_Codes_Next_ok h2 (get_low hq0))) rfl ?_
    refine vops_rd (rd_mvP rfl) rfl ?_
    refine vops_efE (vef_callL hq0 (o' := ⟨51, 2, [.agg [.vs 1 (List.map (PV.int .u8) x3.1.l), .int .i64 x3.1.at_]], w0⟩) (ltObj_es ⟨(lt_agg ⟨.vs _ _, .int _ _, trivial⟩), trivial⟩) rfl Try.call20 (F_draw_Codes_Next_ok h4 (get_low hq0))) rfl ?_
    refine vops_rd (rd_mvP rfl) rfl ?_
    refine vops_efE (vef_callL hq0 (o' := ⟨51, 2, [.agg [.vs 1 (List.map (PV.int .u8) x5.1.l), .int .i64 x5.1.at_]], w0⟩) (ltObj_es ⟨(lt_agg ⟨.vs _ _, .int _ _, trivial⟩), trivial⟩) rfl Try.call15 (F_draw_Codes_Range_ok h6 (get_low hq0))) rfl ?_
    refine vops_rd (rd_build (vs := [(0, .int .i64 x5.2)]) (ds := [.int .i64 x5.2, .int .i64 0]) tz_24 rfl rfl tp_24 ⟨rfl, rfl, trivial⟩ (nt_all2 rfl) rfl) rfl ?_
    refine vops_rd (rd_build (vs := [(0, .int .i64 x1.2), (1, .int .i64 x3.2), (2, .agg [.int .i64 x5.2, .int .i64 0])]) (ds := [.int .i64 x1.2, .int .i64 x3.2, .int .i64 x5.2, .int .i64 0]) tz_26 rfl rfl tp_26 ⟨rfl, rfl, rfl, rfl, rfl, rfl, trivial⟩ (nt_all2 rfl) rfl) rfl ?_
    refine vops_efE (vef_allocN List.length_set rfl tz_26 rfl rfl (Nat.succ_pos _) rfl) rfl ?_
    refine vops_efE (vef_store (p := .agg [.int .i64 x1.2, .int .i64 x3.2, .int .i64 x5.2, .int .i64 0]) (e' := .agg [.int .i64 x1.2, .int .i64 x3.2, .int .i64 x5.2, .int .i64 0]) rfl (getO_N List.length_set rfl) rfl rfl ts_26 rfl (nt_ne rfl) rfl (Nat.le_of_ble_eq_true rfl) rfl (setO_N List.length_set rfl)) rfl ?_
    refine vops_nil ?_
    refine vwp_seq ?_
    obtain ⟨x7, h8, hF⟩ := bnd hF
    refine vwp_drawn [[], [0], [0, 1], [], [3], [0, 1, 2, 3, 4], [0, 1, 2, 3, 4, 5], [0, 1, 2, 3, 4, 5, 6], [0, 1, 2, 3, 4, 5, 6, 7]] [false, false, false, false, true, false, false, false, true] [((low0.set q0 ⟨51, 2, [.agg [.vs 1 (List.map (PV.int .u8) x5.1.l), .int .i64 x5.1.at_]], w0⟩), [⟨26, 4, [.agg [.int .i64 0, .int .i64 0, .int .i64 0, .int .i64 0]], 0⟩, ⟨26, 4, [.agg [.int .i64 x1.2, .int .i64 x3.2, .int .i64 x5.2, .int .i64 0]], 0⟩]), ((low0.set q0 ⟨51, 2, [.agg [.vs 1 (List.map (PV.int .u8) x7.1.l), .int .i64 x7.1.at_]], w0⟩), [⟨26, 4, [.agg [.int .i64 0, .int .i64 0, .int .i64 0, .int .i64 0]], 0⟩, ⟨26, 4, [.agg [.int .i64 x1.2, .int .i64 x3.2, .int .i64 x5.2, .int .i64 0]], 0⟩]), ((low0.set q0 ⟨51, 2, [.agg [.vs 1 (List.map (PV.int .u8) x7.1.l), .int .i64 x7.1.at_]], w0⟩), [⟨26, 4, [.agg [.int .i64 0, .int .i64 0, .int .i64 0, .int .i64 0]], 0⟩, ⟨26, 4, [.agg [.int .i64 x1.2, .int .i64 x3.2, .int .i64 x5.2, .int .i64 (IntKind.i64.wrap (x5.2 + x7.2))]], 0⟩])] mixed (by kernel_rfl) rfl (lenAll (all1 len_set2 (all1 len_set2 (all1 len_set2 all0)))) rfl ((low0.set q0 ⟨51, 2, [.agg [.vs 1 (List.map (PV.int .u8) x7.1.l), .int .i64 x7.1.at_]], w0⟩), [⟨26, 4, [.agg [.int .i64 0, .int .i64 0, .int .i64 0, .int .i64 0]], 0⟩, ⟨26, 4, [.agg [.int .i64 x1.2, .int .i64 x3.2, .int .i64 x5.2, .int .i64 (IntKind.i64.wrap (x5.2 + x7.2))]], 0⟩]) rfl rfl ?_
    refine dops_rdW [((low0.set q0 ⟨51, 2, [.agg [.vs 1 (List.map (PV.int .u8) x5.1.l), .int .i64 x5.1.at_]], w0⟩), [⟨26, 4, [.agg [.int .i64 0, .int .i64 0, .int .i64 0, .int .i64 0]], 0⟩, ⟨26, 4, [.agg [.int .i64 x1.2, .int .i64 x3.2, .int .i64 x5.2, .int .i64 0]], 0⟩]), ((low0.set q0 ⟨51, 2, [.agg [.vs 1 (List.map (PV.int .u8) x7.1.l), .int .i64 x7.1.at_]], w0⟩), [⟨26, 4, [.agg [.int .i64 0, .int .i64 0, .int .i64 0, .int .i64 0]], 0⟩, ⟨26, 4, [.agg [.int .i64 x1.2, .int .i64 x3.2, .int .i64 x5.2, .int .i64 0]], 0⟩])] rfl rfl (all1 (VRd.ntl (rd_fieldAddr rfl tf_26_2 ts_24 (by decide))) (all1 (VRd.ntl (rd_fieldAddr rfl tf_26_2 ts_24 (by decide))) all0)) ?_
    refine dops_rdW [((low0.set q0 ⟨51, 2, [.agg [.vs 1 (List.map (PV.int .u8) x5.1.l), .int .i64 x5.1.at_]], w0⟩), [⟨26, 4, [.agg [.int .i64 0, .int .i64 0, .int .i64 0, .int .i64 0]], 0⟩, ⟨26, 4, [.agg [.int .i64 x1.2, .int .i64 x3.2, .int .i64 x5.2, .int .i64 0]], 0⟩]), ((low0.set q0 ⟨51, 2, [.agg [.vs 1 (List.map (PV.int .u8) x7.1.l), .int .i64 x7.1.at_]], w0⟩), [⟨26, 4, [.agg [.int .i64 0, .int .i64 0, .int .i64 0, .int .i64 0]], 0⟩, ⟨26, 4, [.agg [.int .i64 x1.2, .int .i64 x3.2, .int .i64 x5.2, .int .i64 0]], 0⟩])] rfl rfl (all1 (VRd.ntl (rd_fieldAddr rfl tf_24_0 ts_3 (by decide))) (all1 (VRd.ntl (rd_fieldAddr rfl tf_24_0 ts_3 (by decide))) all0)) ?_
    refine dops_rdW [((low0.set q0 ⟨51, 2, [.agg [.vs 1 (List.map (PV.int .u8) x5.1.l), .int .i64 x5.1.at_]], w0⟩), [⟨26, 4, [.agg [.int .i64 0, .int .i64 0, .int .i64 0, .int .i64 0]], 0⟩, ⟨26, 4, [.agg [.int .i64 x1.2, .int .i64 x3.2, .int .i64 x5.2, .int .i64 0]], 0⟩]), ((low0.set q0 ⟨51, 2, [.agg [.vs 1 (List.map (PV.int .u8) x7.1.l), .int .i64 x7.1.at_]], w0⟩), [⟨26, 4, [.agg [.int .i64 0, .int .i64 0, .int .i64 0, .int .i64 0]], 0⟩, ⟨26, 4, [.agg [.int .i64 x1.2, .int .i64 x3.2, .int .i64 x5.2, .int .i64 0]], 0⟩])] rfl rfl (all1 (VRd.ntl (rd_load1 rfl (getO_N List.length_set rfl) rfl ta_3 rfl)) (all1 (VRd.ntl (rd_load1 rfl (getO_N List.length_set rfl) rfl ta_3 rfl)) all0)) ?_
    refine dops_rdW [((low0.set q0 ⟨51, 2, [.agg [.vs 1 (List.map (PV.int .u8) x5.1.l), .int .i64 x5.1.at_]], w0⟩), [⟨26, 4, [.agg [.int .i64 0, .int .i64 0, .int .i64 0, .int .i64 0]], 0⟩, ⟨26, 4, [.agg [.int .i64 x1.2, .int .i64 x3.2, .int .i64 x5.2, .int .i64 0]], 0⟩])] rfl rfl (all1 (VRd.ntl (rd_mvP rfl)) all0) ?_
    refine dops_ef (M := ((low0.set q0 ⟨51, 2, [.agg [.vs 1 (List.map (PV.int .u8) x5.1.l), .int .i64 x5.1.at_]], w0⟩), [⟨26, 4, [.agg [.int .i64 0, .int .i64 0, .int .i64 0, .int .i64 0]], 0⟩, ⟨26, 4, [.agg [.int .i64 x1.2, .int .i64 x3.2, .int .i64 x5.2, .int .i64 0]], 0⟩])) (M' := ((low0.set q0 ⟨51, 2, [.agg [.vs 1 (List.map (PV.int .u8) x7.1.l), .int .i64 x7.1.at_]], w0⟩), [⟨26, 4, [.agg [.int .i64 0, .int .i64 0, .int .i64 0, .int .i64 0]], 0⟩, ⟨26, 4, [.agg [.int .i64 x1.2, .int .i64 x3.2, .int .i64 x5.2, .int .i64 0]], 0⟩])) rfl rfl rfl (vef_callL hq0 (o' := ⟨51, 2, [.agg [.vs 1 (List.map (PV.int .u8) x7.1.l), .int .i64 x7.1.at_]], w0⟩) (ltObj_es ⟨(lt_agg ⟨.vs _ _, .int _ _, trivial⟩), trivial⟩) rfl Try.call20 (F_draw_Codes_Next_ok h8 (get_low hq0))) ?_
    refine dops_rdW [((low0.set q0 ⟨51, 2, [.agg [.vs 1 (List.map (PV.int .u8) x7.1.l), .int .i64 x7.1.at_]], w0⟩), [⟨26, 4, [.agg [.int .i64 0, .int .i64 0, .int .i64 0, .int .i64 0]], 0⟩, ⟨26, 4, [.agg [.int .i64 x1.2, .int .i64 x3.2, .int .i64 x5.2, .int .i64 0]], 0⟩])] rfl rfl (all1 (VRd.ntl (rd_add rfl rfl rfl)) all0) ?_
    refine dops_rdW [((low0.set q0 ⟨51, 2, [.agg [.vs 1 (List.map (PV.int .u8) x7.1.l), .int .i64 x7.1.at_]], w0⟩), [⟨26, 4, [.agg [.int .i64 0, .int .i64 0, .int .i64 0, .int .i64 0]], 0⟩, ⟨26, 4, [.agg [.int .i64 x1.2, .int .i64 x3.2, .int .i64 x5.2, .int .i64 0]], 0⟩])] rfl rfl (all1 (VRd.ntl (rd_fieldAddr rfl tf_26_2 ts_24 (by decide))) all0) ?_
    refine dops_rdW [((low0.set q0 ⟨51, 2, [.agg [.vs 1 (List.map (PV.int .u8) x7.1.l), .int .i64 x7.1.at_]], w0⟩), [⟨26, 4, [.agg [.int .i64 0, .int .i64 0, .int .i64 0, .int .i64 0]], 0⟩, ⟨26, 4, [.agg [.int .i64 x1.2, .int .i64 x3.2, .int .i64 x5.2, .int .i64 0]], 0⟩])] rfl rfl (all1 (VRd.ntl (rd_fieldAddr rfl tf_24_1 ts_3 (by decide))) all0) ?_
    refine dops_ef (M := ((low0.set q0 ⟨51, 2, [.agg [.vs 1 (List.map (PV.int .u8) x7.1.l), .int .i64 x7.1.at_]], w0⟩), [⟨26, 4, [.agg [.int .i64 0, .int .i64 0, .int .i64 0, .int .i64 0]], 0⟩, ⟨26, 4, [.agg [.int .i64 x1.2, .int .i64 x3.2, .int .i64 x5.2, .int .i64 0]], 0⟩])) (M' := ((low0.set q0 ⟨51, 2, [.agg [.vs 1 (List.map (PV.int .u8) x7.1.l), .int .i64 x7.1.at_]], w0⟩), [⟨26, 4, [.agg [.int .i64 0, .int .i64 0, .int .i64 0, .int .i64 0]], 0⟩, ⟨26, 4, [.agg [.int .i64 x1.2, .int .i64 x3.2, .int .i64 x5.2, .int .i64 (IntKind.i64.wrap (x5.2 + x7.2))]], 0⟩])) rfl rfl rfl (vef_store (p := .int .i64 (IntKind.i64.wrap (x5.2 + x7.2))) (e' := .agg [.int .i64 x1.2, .int .i64 x3.2, .int .i64 x5.2, .int .i64 (IntKind.i64.wrap (x5.2 + x7.2))]) rfl (getO_N List.length_set rfl) rfl rfl ts_3 rfl (nt_ne rfl) rfl (Nat.le_of_ble_eq_true rfl) rfl (setO_N List.length_set rfl)) ?_
    refine dops_nil ?_
    refine vwp_seq ?_
    refine vwp_seq ?_
    refine vwp_region ?_
    obtain ⟨x9, h10, hF⟩ := bnd hF
    refine vops_rd (rd_mvP rfl) rfl ?_
    refine vops_efE (vef_callL hq0 (o' := ⟨51, 2, [.agg [.vs 1 (List.map (PV.int .u8) x9.1.l), .int .i64 x9.1.at_]], w0⟩) (ltObj_es ⟨(lt_agg ⟨.vs _ _, .int _ _, trivial⟩), trivial⟩) rfl Try.call21 (F_draw_Codes_One_ok h10 (get_low hq0))) rfl ?_
    refine vops_nil ?_
    obtain ⟨o11, ho11, hF⟩ := bnd hF
    refine vwp_monoW (Q' := (fun o11 => OnlyE .normal (fun E' lw lc => Weak E' lw lc [(0, .ptr q0 w0 0 0), (2, .ptr (low0.length + 0) 0 0 0), (3, .ptr (low0.length + 1) 0 0 0)] (low0.set q0 ⟨51, 2, [.agg [.vs 1 (List.map (PV.int .u8) x9.1.l), .int .i64 x9.1.at_]], w0⟩) [⟨26, 4, [.agg [.int .i64 0, .int .i64 0, .int .i64 0, .int .i64 0]], 0⟩, ⟨26, 4, [.agg [.int .i64 o11.Sensor, .int .i64 o11.Time, .int .i64 o11.Span.Low, .int .i64 o11.Span.High]], 0⟩])) o11) ?_ ?_
    · replace hF := ho11
      refine vwp_cond rfl (fun c12 => ?_) (fun c12 => ?_)
      · have hF := bifT c12 hF
        refine vwp_region ?_
        obtain ⟨x13, h14, hF⟩ := bnd hF
        refine vops_efE (vef_callP rfl Try.call18 (F_ref05_Nothing_ok h14 _)) rfl ?_
        refine vops_rd (rd_fieldAddr rfl tf_26_2 ts_24 (by decide)) rfl ?_
        refine vops_efE (vef_store (p := .agg [.int .i64 x13.Low, .int .i64 x13.High]) (e' := .agg [.int .i64 x1.2, .int .i64 x3.2, .int .i64 x13.Low, .int .i64 x13.High]) rfl (getO_N List.length_set rfl) rfl rfl ts_24 rfl (nt_ne rfl) rfl (Nat.le_of_ble_eq_true rfl) rfl (setO_N List.length_set rfl)) rfl ?_
        refine vops_nil ?_
        obtain rfl := Option.some.inj hF
        refine onlyE ?_
        exact weak_sub ⟨rfl, rfl, rfl, trivial⟩
      · have hF := bifF c12 hF
        refine vwp_skip ?_
        obtain rfl := Option.some.inj hF
        refine onlyE ?_
        exact weak_sub ⟨rfl, rfl, rfl, trivial⟩
    · rintro _ _ _ _ ⟨rfl, hw⟩
      refine ⟨_, _, _, hw, ?_⟩
      refine vwp_seq ?_
      refine vwp_seq ?_
      refine vwp_region ?_
      obtain ⟨x15, h16, hF⟩ := bnd hF
      refine vops_rd (rd_mvP rfl) rfl ?_
      refine vops_efE (vef_callL hq0 (o' := ⟨51, 2, [.agg [.vs 1 (List.map (PV.int .u8) x15.1.l), .int .i64 x15.1.at_]], w0⟩) (ltObj_es ⟨(lt_agg ⟨.vs _ _, .int _ _, trivial⟩), trivial⟩) rfl Try.call21 (F_draw_Codes_One_ok h16 (get_low hq0))) rfl ?_
      refine vops_nil ?_
      obtain ⟨o17, ho17, hF⟩ := bnd hF
      refine vwp_monoW (Q' := (fun o17 => OnlyE .normal (fun E' lw lc => Weak E' lw lc [(2, .ptr (low0.length + 0) 0 0 0), (3, .ptr (low0.length + 1) 0 0 0)] (low0.set q0 ⟨51, 2, [.agg [.vs 1 (List.map (PV.int .u8) x15.1.l), .int .i64 x15.1.at_]], w0⟩) [⟨26, 4, [.agg [.int .i64 0, .int .i64 0, .int .i64 0, .int .i64 0]], 0⟩, ⟨26, 4, [.agg [.int .i64 o17, .int .i64 o11.Time, .int .i64 o11.Span.Low, .int .i64 o11.Span.High]], 0⟩])) o17) ?_ ?_
      · replace hF := ho17
        refine vwp_cond rfl (fun c18 => ?_) (fun c18 => ?_)
        · have hF := bifT c18 hF
          refine vwp_region ?_
          refine vops_rd (rd_fieldAddr rfl tf_26_0 ts_3 (by decide)) rfl ?_
          refine vops_efE (vef_store (p := .int .i64 (-1)) (e' := .agg [.int .i64 (-1), .int .i64 o11.Time, .int .i64 o11.Span.Low, .int .i64 o11.Span.High]) rfl (getO_N List.length_set rfl) rfl rfl ts_3 rfl (nt_ne rfl) rfl (Nat.le_of_ble_eq_true rfl) rfl (setO_N List.length_set rfl)) rfl ?_
          refine vops_nil ?_
          obtain rfl := Option.some.inj hF
          refine onlyE ?_
          exact weak_sub ⟨rfl, rfl, trivial⟩
        · have hF := bifF c18 hF
          refine vwp_skip ?_
          obtain rfl := Option.some.inj hF
          refine onlyE ?_
          exact weak_sub ⟨rfl, rfl, trivial⟩
      · rintro _ _ _ _ ⟨rfl, hw⟩
        refine ⟨_, _, _, hw, ?_⟩
        refine vwp_seq ?_
        refine vwp_region ?_
        refine vops_rd (rd_loadN (ds := [.int .i64 o17, .int .i64 o11.Time, .int .i64 o11.Span.Low, .int .i64 o11.Span.High]) rfl (getO_N List.length_set rfl) rfl ta_26 ts_26 rfl rfl rfl) rfl ?_
        refine vops_efE (vef_store (p := .agg [.int .i64 o17, .int .i64 o11.Time, .int .i64 o11.Span.Low, .int .i64 o11.Span.High]) (e' := .agg [.int .i64 o17, .int .i64 o11.Time, .int .i64 o11.Span.Low, .int .i64 o11.Span.High]) rfl (getO_N List.length_set rfl) rfl rfl ts_26 rfl (nt_ne rfl) rfl (Nat.le_of_ble_eq_true rfl) rfl (setO_N List.length_set rfl)) rfl ?_
        refine vops_nil ?_
        refine vwp_ret ?_
        obtain rfl := Option.some.inj hF
        refine fnR ?_
        exact weak_pick List.length_set [(0, 0)] (by decide) ⟨rn_ptr 0 0 rfl rfl, trivial⟩ ⟨⟨_, rfl, rfl, .same _ _ _ _ (ltObj_es ⟨(lt_agg ⟨.int _ _, .int _ _, .int _ _, .int _ _, trivial⟩), trivial⟩)⟩, trivial⟩
  · rintro _ _ _ _ ⟨he, hw⟩
    refine ⟨_, _, _, hw, ?_⟩
    exact bodyQ_pure he [.agg [.int .i64 r.2.Sensor, .int .i64 r.2.Time, .int .i64 r.2.Span.Low, .int .i64 r.2.Span.High]] ⟨rd_loadN rfl (getO_N List.length_set rfl) rfl ta_26 ts_26 rfl rfl rfl, trivial⟩ ((lt_agg ⟨.int _ _, .int _ _, .int _ _, .int _ _, trivial⟩)) ⟨rfl, rfl⟩

theorem F_law06_measured_ok {p0 : T_draw_Codes} {r : T_draw_Codes × T_Measure} (hF : F_law06_measured p0 = some r) {low : List AObj} {q0 w0 : Nat} (hq0 : low[q0]? = some ⟨51, 2, [.agg [.vs 1 (List.map (PV.int .u8) p0.l), .int .i64 p0.at_]], w0⟩) :
    VCalls Try.prog 8 [.ptr q0 w0 0 0] low fun x low' => x = .agg [.int .i64 r.2.Sensor, .int .i64 r.2.Time, .int .i64 r.2.Span.Low, .int .i64 r.2.Span.High] ∧ low' = low.set q0 ⟨51, 2, [.agg [.vs 1 (List.map (PV.int .u8) r.1.l), .int .i64 r.1.at_]], w0⟩ := by
  obtain ⟨h1, h2⟩ := low_set hq0
  have h := F_law06_measured_ok0 hF (w0 := w0) h1
  rw [← h2] at h
  exact h

theorem F_draw_Mod_ok {p0 : Int} {p1 : Int} {r : Int} (hF : F_draw_Mod p0 p1 = some r) (low : List AObj) :
    VCalls Try.prog 10 [.int .i64 p0, .int .i64 p1] low fun x low' => x = .int .i64 r ∧ low' = low := by
  refine vcalls_of_body (nt := 16) (rs := [.tmp 4]) Try.func10 rfl rfl (Nat.le_of_ble_eq_true rfl) rfl ?_
  refine vwp_monoW (Q' := FnE (fun E' lw lc => Weak E' lw lc [(4, .int .i64 r)] low [])) ?_ ?_
  · unfold F_draw_Mod at hF
    refine vwp_seq ?_
    refine vwp_region ?_
    refine vops_rd (rd_asI rfl) rfl ?_
    refine vops_nil ?_
    refine vwp_seq ?_
    refine vwp_seq ?_
    refine vwp_region ?_
    refine vops_rd (rd_mvI rfl) rfl ?_
    refine vops_rd (rd_lss rfl rfl) rfl ?_
    refine vops_nil ?_
    refine vwp_cond rfl (fun c1 => ?_) (fun c1 => ?_)
    · have hF := bifT c1 hF
      refine vwp_seq ?_
      refine vwp_region ?_
      refine vops_rd (rd_asI rfl) rfl ?_
      refine vops_nil ?_
      refine vwp_ret ?_
      obtain rfl := Option.some.inj hF
      refine fnR ?_
      exact weak_sub ⟨rfl, trivial⟩
    · have hF := bifF c1 hF
      refine vwp_skip ?_
      refine vwp_seq ?_
      refine vwp_region ?_
      obtain ⟨x2, h3, hF⟩ := bnd hF
      refine vops_rd (rd_mvI rfl) rfl ?_
      refine vops_rd (rd_mvI rfl) rfl ?_
      refine vops_rd (rd_rem rfl rfl (remI_some h3).1 (remI_some h3).2) rfl ?_
      refine vops_rd (rd_asI rfl) rfl ?_
      refine vops_nil ?_
      refine vwp_seq ?_
      refine vwp_seq ?_
      refine vwp_region ?_
      refine vops_rd (rd_mvI rfl) rfl ?_
      refine vops_rd (rd_lss rfl rfl) rfl ?_
      refine vops_nil ?_
      obtain ⟨o4, ho4, hF⟩ := bnd hF
      refine vwp_monoW (Q' := (fun o4 => OnlyE .normal (fun E' lw lc => Weak E' lw lc [(0, .int .i64 o4)] low [])) o4) ?_ ?_
      · replace hF := ho4
        refine vwp_cond rfl (fun c5 => ?_) (fun c5 => ?_)
        · have hF := bifT c5 hF
          refine vwp_region ?_
          refine vops_rd (rd_mvI rfl) rfl ?_
          refine vops_rd (rd_mvI rfl) rfl ?_
          refine vops_rd (rd_add rfl rfl rfl) rfl ?_
          refine vops_rd (rd_asI rfl) rfl ?_
          refine vops_nil ?_
          obtain rfl := Option.some.inj hF
          refine onlyE ?_
          exact weak_sub ⟨rfl, trivial⟩
        · have hF := bifF c5 hF
          refine vwp_skip ?_
          obtain rfl := Option.some.inj hF
          refine onlyE ?_
          exact weak_sub ⟨rfl, trivial⟩
      · rintro _ _ _ _ ⟨rfl, hw⟩
        refine ⟨_, _, _, hw, ?_⟩
        refine vwp_seq ?_
        refine vwp_region ?_
        refine vops_rd (rd_mvI rfl) rfl ?_
        refine vops_rd (rd_asI rfl) rfl ?_
        refine vops_nil ?_
        refine vwp_ret ?_
        obtain rfl := Option.some.inj hF
        refine fnR ?_
        exact weak_sub ⟨rfl, trivial⟩
  · rintro _ _ _ _ ⟨he, hw⟩
    refine ⟨_, _, _, hw, ?_⟩
    exact bodyQ_pure he [.int .i64 r] ⟨rfl, trivial⟩ (.int _ _) ⟨rfl, rfl⟩

theorem F_window_Above_ok {p0 : T_Span} {p1 : Int} {r : Int} (hF : F_window_Above p0 p1 = some r) (low : List AObj) :
    VCalls Try.prog 11 [.agg [.int .i64 p0.Low, .int .i64 p0.High], .int .i64 p1] low fun x low' => x = .int .i64 r ∧ low' = low := by
  refine vcalls_of_body (nt := 21) (rs := [.tmp 4]) Try.func11 rfl rfl (Nat.le_of_ble_eq_true rfl) rfl ?_
  refine vwp_monoW (Q' := FnE (fun E' lw lc => Weak E' lw lc [(4, .int .i64 r)] low [])) ?_ ?_
  · unfold F_window_Above at hF
    refine vwp_seq ?_
    refine vwp_region ?_
    refine vops_efE (vef_boxN rfl rfl (v := .agg [.int .i64 p0.Low, .int .i64 p0.High]) rfl rfl (Nat.succ_pos _) rfl rfl) rfl ?_
    refine vops_rd (rd_asI rfl) rfl ?_
    refine vops_nil ?_
    refine vwp_seq ?_
    refine vwp_block ?_
    refine vwp_seq ?_
    refine vwp_region ?_
    refine vops_rd (rd_fieldAddr rfl tf_24_0 ts_3 (by decide)) rfl ?_
    refine vops_rd (rd_load1 rfl (getO_N rfl rfl) rfl ta_3 rfl) rfl ?_
    refine vops_rd (rd_fieldAddr rfl tf_24_1 ts_3 (by decide)) rfl ?_
    refine vops_rd (rd_load1 rfl (getO_N rfl rfl) rfl ta_3 rfl) rfl ?_
    refine vops_rd (rd_gtr rfl rfl) rfl ?_
    refine vops_rd (rd_asB rfl) rfl ?_
    refine vops_nil ?_
    refine vwp_cond rfl (fun c1 => ?_) (fun c1 => ?_)
    · have hF := bifT c1 hF
      refine vwp_seq ?_
      refine vwp_region ?_
      refine vops_rd (rd_asI rfl) rfl ?_
      refine vops_nil ?_
      refine vwp_ret ?_
      obtain rfl := Option.some.inj hF
      refine fnR ?_
      exact weak_pick rfl [] (by decide) ⟨rn_low rfl (.int _ _), trivial⟩ trivial
    · have hF := bifF c1 hF
      refine vwp_seq ?_
      refine vwp_region ?_
      refine vops_rd (rd_fieldAddr rfl tf_24_0 ts_3 (by decide)) rfl ?_
      refine vops_rd (rd_load1 rfl (getO_N rfl rfl) rfl ta_3 rfl) rfl ?_
      refine vops_rd (rd_mvI rfl) rfl ?_
      refine vops_rd (rd_geq rfl rfl) rfl ?_
      refine vops_rd (rd_asB rfl) rfl ?_
      refine vops_nil ?_
      refine vwp_cond rfl (fun c2 => ?_) (fun c2 => ?_)
      · have hF := bifT c2 hF
        refine vwp_seq ?_
        refine vwp_region ?_
        refine vops_rd (rd_asI rfl) rfl ?_
        refine vops_nil ?_
        refine vwp_ret ?_
        obtain rfl := Option.some.inj hF
        refine fnR ?_
        exact weak_pick rfl [] (by decide) ⟨rn_low rfl (.int _ _), trivial⟩ trivial
      · have hF := bifF c2 hF
        refine vwp_seq ?_
        refine vwp_region ?_
        refine vops_rd (rd_fieldAddr rfl tf_24_1 ts_3 (by decide)) rfl ?_
        refine vops_rd (rd_load1 rfl (getO_N rfl rfl) rfl ta_3 rfl) rfl ?_
        refine vops_rd (rd_mvI rfl) rfl ?_
        refine vops_rd (rd_lss rfl rfl) rfl ?_
        refine vops_rd (rd_asB rfl) rfl ?_
        refine vops_nil ?_
        refine vwp_cond rfl (fun c3 => ?_) (fun c3 => ?_)
        · have hF := bifT c3 hF
          refine vwp_seq ?_
          refine vwp_region ?_
          refine vops_rd (rd_asI rfl) rfl ?_
          refine vops_nil ?_
          refine vwp_ret ?_
          obtain rfl := Option.some.inj hF
          refine fnR ?_
          exact weak_pick rfl [] (by decide) ⟨rn_low rfl (.int _ _), trivial⟩ trivial
        · have hF := bifF c3 hF
          refine vwp_skip ?_
          refine vwp_seq ?_
          refine vwp_region ?_
          refine vops_rd (rd_asI rfl) rfl ?_
          refine vops_nil ?_
          refine vwp_ret ?_
          obtain rfl := Option.some.inj hF
          refine fnR ?_
          exact weak_pick rfl [] (by decide) ⟨rn_low rfl (.int _ _), trivial⟩ trivial
  · rintro _ _ _ _ ⟨he, hw⟩
    refine ⟨_, _, _, hw, ?_⟩
    exact bodyQ_pure he [.int .i64 r] ⟨rfl, trivial⟩ (.int _ _) ⟨rfl, rfl⟩

theorem F_ref06_Above_ok {p0 : T_Span} {p1 : Int} {r : Int} (hF : F_ref06_Above p0 p1 = some r) (low : List AObj) :
    VCalls Try.prog 12 [.agg [.int .i64 p0.Low, .int .i64 p0.High], .int .i64 p1] low fun x low' => x = .int .i64 r ∧ low' = low := by
  refine vcalls_of_body (nt := 18) (rs := [.tmp 4]) Try.func12 rfl rfl (Nat.le_of_ble_eq_true rfl) rfl ?_
  refine vwp_monoW (Q' := FnE (fun E' lw lc => Weak E' lw lc [(4, .int .i64 r)] low [])) ?_ ?_
  · unfold F_ref06_Above at hF
    refine vwp_seq ?_
    refine vwp_region ?_
    refine vops_efE (vef_boxN rfl rfl (v := .agg [.int .i64 p0.Low, .int .i64 p0.High]) rfl rfl (Nat.succ_pos _) rfl rfl) rfl ?_
    refine vops_rd (rd_asI rfl) rfl ?_
    refine vops_nil ?_
    refine vwp_seq ?_
    refine vwp_seq ?_
    refine vwp_region ?_
    refine vops_rd (rd_fieldAddr rfl tf_24_0 ts_3 (by decide)) rfl ?_
    refine vops_rd (rd_load1 rfl (getO_N rfl rfl) rfl ta_3 rfl) rfl ?_
    refine vops_rd (rd_fieldAddr rfl tf_24_1 ts_3 (by decide)) rfl ?_
    refine vops_rd (rd_load1 rfl (getO_N rfl rfl) rfl ta_3 rfl) rfl ?_
    refine vops_rd (rd_gtr rfl rfl) rfl ?_
    refine vops_nil ?_
    refine vwp_cond rfl (fun c1 => ?_) (fun c1 => ?_)
    · have hF := bifT c1 hF
      refine vwp_seq ?_
      refine vwp_region ?_
      refine vops_rd (rd_asI rfl) rfl ?_
      refine vops_nil ?_
      refine vwp_ret ?_
      obtain rfl := Option.some.inj hF
      refine fnR ?_
      exact weak_pick rfl [] (by decide) ⟨rn_low rfl (.int _ _), trivial⟩ trivial
    · have hF := bifF c1 hF
      refine vwp_skip ?_
      refine vwp_seq ?_
      refine vwp_seq ?_
      refine vwp_region ?_
      refine vops_rd (rd_fieldAddr rfl tf_24_0 ts_3 (by decide)) rfl ?_
      refine vops_rd (rd_load1 rfl (getO_N rfl rfl) rfl ta_3 rfl) rfl ?_
      refine vops_rd (rd_mvI rfl) rfl ?_
      refine vops_rd (rd_geq rfl rfl) rfl ?_
      refine vops_nil ?_
      refine vwp_cond rfl (fun c2 => ?_) (fun c2 => ?_)
      · have hF := bifT c2 hF
        refine vwp_seq ?_
        refine vwp_region ?_
        refine vops_rd (rd_asI rfl) rfl ?_
        refine vops_nil ?_
        refine vwp_ret ?_
        obtain rfl := Option.some.inj hF
        refine fnR ?_
        exact weak_pick rfl [] (by decide) ⟨rn_low rfl (.int _ _), trivial⟩ trivial
      · have hF := bifF c2 hF
        refine vwp_skip ?_
        refine vwp_seq ?_
        refine vwp_seq ?_
        refine vwp_region ?_
        refine vops_rd (rd_fieldAddr rfl tf_24_1 ts_3 (by decide)) rfl ?_
        refine vops_rd (rd_load1 rfl (getO_N rfl rfl) rfl ta_3 rfl) rfl ?_
        refine vops_rd (rd_mvI rfl) rfl ?_
        refine vops_rd (rd_lss rfl rfl) rfl ?_
        refine vops_nil ?_
        refine vwp_cond rfl (fun c3 => ?_) (fun c3 => ?_)
        · have hF := bifT c3 hF
          refine vwp_seq ?_
          refine vwp_region ?_
          refine vops_rd (rd_asI rfl) rfl ?_
          refine vops_nil ?_
          refine vwp_ret ?_
          obtain rfl := Option.some.inj hF
          refine fnR ?_
          exact weak_pick rfl [] (by decide) ⟨rn_low rfl (.int _ _), trivial⟩ trivial
        · have hF := bifF c3 hF
          refine vwp_skip ?_
          refine vwp_seq ?_
          refine vwp_region ?_
          refine vops_rd (rd_asI rfl) rfl ?_
          refine vops_nil ?_
          refine vwp_ret ?_
          obtain rfl := Option.some.inj hF
          refine fnR ?_
          exact weak_pick rfl [] (by decide) ⟨rn_low rfl (.int _ _), trivial⟩ trivial
  · rintro _ _ _ _ ⟨he, hw⟩
    refine ⟨_, _, _, hw, ?_⟩
    exact bodyQ_pure he [.int .i64 r] ⟨rfl, trivial⟩ (.int _ _) ⟨rfl, rfl⟩

theorem F_sensor_Nothing_ok  {r : T_Span} (hF : F_sensor_Nothing = some r) (low : List AObj) :
    VCalls Try.prog 30 [] low fun x low' => x = .agg [.int .i64 r.Low, .int .i64 r.High] ∧ low' = low := by
  refine vcalls_of_body (nt := 2) (rs := [.cell 0 24]) Try.func30 rfl rfl (Nat.le_of_ble_eq_true rfl) rfl ?_
  refine vwp_monoW (Q' := FnE (fun E' lw lc => Weak E' lw lc [(0, .ptr (low.length + 0) 0 0 0)] low [⟨24, 2, [.agg [.int .i64 r.Low, .int .i64 r.High]], 0⟩])) ?_ ?_
  · unfold F_sensor_Nothing at hF
    refine vwp_seq ?_
    refine vwp_region ?_
    refine vops_efE (vef_allocN rfl rfl tz_24 rfl rfl (Nat.succ_pos _) rfl) rfl ?_
    refine vops_nil ?_
    refine vwp_seq ?_
    refine vwp_region ?_
    refine vops_rd (rd_build (vs := [(0, .int .i64 (-1125899906842624)), (1, .int .i64 1125899906842624)]) (ds := [.int .i64 (-1125899906842624), .int .i64 1125899906842624]) tz_24 rfl rfl tp_24 ⟨rfl, rfl, rfl, rfl, trivial⟩ (nt_all2 rfl) rfl) rfl ?_
    refine vops_efE (vef_store (p := .agg [.int .i64 (-1125899906842624), .int .i64 1125899906842624]) (e' := .agg [.int .i64 (-1125899906842624), .int .i64 1125899906842624]) rfl (getO_N rfl rfl) rfl rfl ts_24 rfl (nt_ne rfl) rfl (Nat.le_of_ble_eq_true rfl) rfl (setO_N rfl rfl)) rfl ?_
    refine vops_nil ?_
    refine vwp_ret ?_
    obtain rfl := Option.some.inj hF
    refine fnR ?_
    exact weak_sub ⟨rfl, trivial⟩
  · rintro _ _ _ _ ⟨he, hw⟩
    refine ⟨_, _, _, hw, ?_⟩
    exact bodyQ_pure he [.agg [.int .i64 r.Low, .int .i64 r.High]] ⟨rd_loadN rfl (getO_N rfl rfl) rfl ta_24 ts_24 rfl rfl rfl, trivial⟩ ((lt_agg ⟨.int _ _, .int _ _, trivial⟩)) ⟨rfl, rfl⟩

theorem F_window_Meet_ok {p0 : List T_Span} {r : T_Span × Bool} (hF : F_window_Meet p0 = some r) (low : List AObj) :
    VCalls Try.prog 22 [.vs 2 (List.map T_Span.enc p0)] low fun x low' => x = .tup [.agg [.int .i64 r.1.Low, .int .i64 r.1.High], .bool r.2] ∧ low' = low := by
  refine vcalls_of_body (nt := 40) (rs := [.cell 2 24, .tmp 3]) Try.func22 rfl rfl (Nat.le_of_ble_eq_true rfl) rfl ?_
  refine vwp_monoW (Q' := FnE (fun E' lw lc => Weak E' lw lc [(2, .ptr (low.length + 0) 0 0 0), (3, .bool r.2)] low [⟨24, 2, [.agg [.int .i64 r.1.Low, .int .i64 r.1.High]], 0⟩])) ?_ ?_
  · unfold F_window_Meet at hF
    refine vwp_seq ?_
    refine vwp_region ?_
    refine vops_efE (vef_allocN rfl rfl tz_24 rfl rfl (Nat.succ_pos _) rfl) rfl ?_
    refine vops_rd (rd_asB rfl) rfl ?_
    refine vops_nil ?_
    refine vwp_seq ?_
    refine vwp_seq ?_
    refine vwp_region ?_
    refine vops_rd (rd_mvV rfl) rfl ?_
    refine vops_rd (rd_to (rd_lenV rfl rfl te_42) (congrArg (fun n : Nat => PV.int .i64 (n : Int)) (List.length_map _))) rfl ?_
    refine vops_rd (rd_eql rfl rfl) rfl ?_
    refine vops_nil ?_
    refine vwp_cond rfl (fun c1 => ?_) (fun c1 => ?_)
    · have hF := bifT c1 hF
      refine vwp_seq ?_
      refine vwp_region ?_
      obtain ⟨x2, h3, hF⟩ := bnd hF
      refine vops_efE (vef_callP rfl Try.call30 (F_sensor_Nothing_ok h3 _)) rfl ?_
      refine vops_efE (vef_store (p := .agg [.int .i64 x2.Low, .int .i64 x2.High]) (e' := .agg [.int .i64 x2.Low, .int .i64 x2.High]) rfl (getO_N rfl rfl) rfl rfl ts_24 rfl (nt_ne rfl) rfl (Nat.le_of_ble_eq_true rfl) rfl (setO_N rfl rfl)) rfl ?_
      refine vops_rd (rd_asB rfl) rfl ?_
      refine vops_nil ?_
      refine vwp_ret ?_
      obtain rfl := Option.some.inj hF
      refine fnR ?_
      exact weak_sub ⟨rfl, rfl, trivial⟩
    · have hF := bifF c1 hF
      refine vwp_skip ?_
      refine vwp_seq ?_
      refine vwp_region ?_
      obtain ⟨x4, h5, hF⟩ := bnd hF
      refine vops_rd (rd_mvV rfl) rfl ?_
      refine vops_rd (rd_to (rd_ixV rfl rfl h5 te_42 ts_24) (v' := .vptr [.int .i64 x4.Low, .int .i64 x4.High] 0) rfl) rfl ?_
      refine vops_rd (rd_loadVN (ds := [.int .i64 x4.Low, .int .i64 x4.High]) rfl ta_24 ts_24 rfl rfl) rfl ?_
      refine vops_efE (vef_allocN rfl rfl tz_24 rfl rfl (Nat.succ_pos _) rfl) rfl ?_
      refine vops_efE (vef_store (p := .agg [.int .i64 x4.Low, .int .i64 x4.High]) (e' := .agg [.int .i64 x4.Low, .int .i64 x4.High]) rfl (getO_N rfl rfl) rfl rfl ts_24 rfl (nt_ne rfl) rfl (Nat.le_of_ble_eq_true rfl) rfl (setO_N rfl rfl)) rfl ?_
      refine vops_nil ?_
      refine vwp_seq ?_
      refine vwp_seq ?_
      refine vwp_region ?_
      refine vops_rd (rd_mvV rfl) rfl ?_
      refine vops_rd (rd_to (rd_lenV rfl rfl te_42) (congrArg (fun n : Nat => PV.int .i64 (n : Int)) (List.length_map _))) rfl ?_
      refine vops_rd (rd_mvI rfl) rfl ?_
      refine vops_nil ?_
      refine vwp_block ?_
      obtain ⟨o7, ho7, hF⟩ := bnd hF
      refine vwp_monoW (vwp_loopC (F_window_Meet_L1 p0) (fun s6 E' lw lc => Weak E' lw lc [(2, .ptr (low.length + 0) 0 0 0), (4, .ptr (low.length + 1) 0 0 0), (14, .vs 2 (List.map T_Span.enc p0)), (15, .int .i64 ((p0).length : Int)), (16, .int .i64 s6.1)] low [⟨24, 2, [.agg [.int .i64 0, .int .i64 0]], 0⟩, ⟨24, 2, [.agg [.int .i64 s6.2.Low, .int .i64 s6.2.High]], 0⟩]) (fun o7 => OnlyE (.exit 0) (fun E' lw lc => Weak E' lw lc [(2, .ptr (low.length + 0) 0 0 0), (4, .ptr (low.length + 1) 0 0 0)] low [⟨24, 2, [.agg [.int .i64 0, .int .i64 0]], 0⟩, ⟨24, 2, [.agg [.int .i64 o7.Low, .int .i64 o7.High]], 0⟩])) ho7 ?_ (by rintro _ _ _ _ ⟨h, _⟩ <;> cases h) ?_) ?_
      · exact weak_sub ⟨rfl, rfl, rfl, rfl, rfl, trivial⟩
      · rintro s6 os6 _ _ _ hF hw
        unfold F_window_Meet_L1 at hF
        refine vwp_weak hw ?_
        refine vwp_seq ?_
        refine vwp_region ?_
        refine vops_rd (rd_lss rfl rfl) rfl ?_
        refine vops_nil ?_
        refine vwp_seq ?_
        refine vwp_cond rfl (fun c8 => ?_) (fun c8 => ?_)
        · have hF := bifT c8 hF
          refine vwp_skip ?_
          refine vwp_seq ?_
          refine vwp_block ?_
          refine vwp_seq ?_
          refine vwp_region ?_
          obtain ⟨x9, h10, hF⟩ := bnd hF
          refine vops_rd (rd_to (rd_ixV rfl rfl h10 te_42 ts_24) (v' := .vptr [.int .i64 x9.Low, .int .i64 x9.High] 0) rfl) rfl ?_
          refine vops_rd (rd_loadVN (ds := [.int .i64 x9.Low, .int .i64 x9.High]) rfl ta_24 ts_24 rfl rfl) rfl ?_
          refine vops_efE (vef_allocN rfl rfl tz_24 rfl rfl (Nat.succ_pos _) rfl) rfl ?_
          refine vops_efE (vef_store (p := .agg [.int .i64 x9.Low, .int .i64 x9.High]) (e' := .agg [.int .i64 x9.Low, .int .i64 x9.High]) rfl (getO_N rfl rfl) rfl rfl ts_24 rfl (nt_ne rfl) rfl (Nat.le_of_ble_eq_true rfl) rfl (setO_N rfl rfl)) rfl ?_
          refine vops_nil ?_
          refine vwp_drawn [[], [0], [], [2], [0, 1, 2, 3], [], [5], [], [7], [5, 6, 7, 8], [0, 1, 2, 3, 4, 5, 6], [0, 1, 2, 3, 4, 5, 6, 10], [0, 1, 2, 3, 4, 5, 6, 7, 8, 9, 10, 11], [0, 1, 2, 3, 4, 5, 6, 7, 8, 9, 10, 11, 12]] [false, false, false, false, false, false, false, false, false, false, false, true, false, true] [(low, [⟨24, 2, [.agg [.int .i64 0, .int .i64 0]], 0⟩, ⟨24, 2, [.agg [.int .i64 s6.2.Low, .int .i64 s6.2.High]], 0⟩, ⟨24, 2, [.agg [.int .i64 x9.Low, .int .i64 x9.High]], 0⟩]), (low, [⟨24, 2, [.agg [.int .i64 0, .int .i64 0]], 0⟩, ⟨24, 2, [.agg [.int .i64 (max s6.2.Low x9.Low), .int .i64 s6.2.High]], 0⟩, ⟨24, 2, [.agg [.int .i64 x9.Low, .int .i64 x9.High]], 0⟩]), (low, [⟨24, 2, [.agg [.int .i64 0, .int .i64 0]], 0⟩, ⟨24, 2, [.agg [.int .i64 (max s6.2.Low x9.Low), .int .i64 (min s6.2.High x9.High)]], 0⟩, ⟨24, 2, [.agg [.int .i64 x9.Low, .int .i64 x9.High]], 0⟩])] mixed (by kernel_rfl) rfl (lenAll (all1 rfl (all1 rfl (all1 rfl all0)))) rfl (low, [⟨24, 2, [.agg [.int .i64 0, .int .i64 0]], 0⟩, ⟨24, 2, [.agg [.int .i64 (max s6.2.Low x9.Low), .int .i64 (min s6.2.High x9.High)]], 0⟩, ⟨24, 2, [.agg [.int .i64 x9.Low, .int .i64 x9.High]], 0⟩]) rfl rfl ?_
          refine dops_rdW [(low, [⟨24, 2, [.agg [.int .i64 0, .int .i64 0]], 0⟩, ⟨24, 2, [.agg [.int .i64 s6.2.Low, .int .i64 s6.2.High]], 0⟩, ⟨24, 2, [.agg [.int .i64 x9.Low, .int .i64 x9.High]], 0⟩])] rfl rfl (all1 (VRd.ntl (rd_fieldAddr rfl tf_24_0 ts_3 (by decide))) all0) ?_
          refine dops_rdW [(low, [⟨24, 2, [.agg [.int .i64 0, .int .i64 0]], 0⟩, ⟨24, 2, [.agg [.int .i64 s6.2.Low, .int .i64 s6.2.High]], 0⟩, ⟨24, 2, [.agg [.int .i64 x9.Low, .int .i64 x9.High]], 0⟩])] rfl rfl (all1 (VRd.ntl (rd_load1 rfl (getO_N rfl rfl) rfl ta_3 rfl)) all0) ?_
          refine dops_rdW [(low, [⟨24, 2, [.agg [.int .i64 0, .int .i64 0]], 0⟩, ⟨24, 2, [.agg [.int .i64 s6.2.Low, .int .i64 s6.2.High]], 0⟩, ⟨24, 2, [.agg [.int .i64 x9.Low, .int .i64 x9.High]], 0⟩])] rfl rfl (all1 (VRd.ntl (rd_fieldAddr rfl tf_24_0 ts_3 (by decide))) all0) ?_
          refine dops_rdW [(low, [⟨24, 2, [.agg [.int .i64 0, .int .i64 0]], 0⟩, ⟨24, 2, [.agg [.int .i64 s6.2.Low, .int .i64 s6.2.High]], 0⟩, ⟨24, 2, [.agg [.int .i64 x9.Low, .int .i64 x9.High]], 0⟩])] rfl rfl (all1 (VRd.ntl (rd_load1 rfl (getO_N rfl rfl) rfl ta_3 rfl)) all0) ?_
          refine dops_rdW [(low, [⟨24, 2, [.agg [.int .i64 0, .int .i64 0]], 0⟩, ⟨24, 2, [.agg [.int .i64 s6.2.Low, .int .i64 s6.2.High]], 0⟩, ⟨24, 2, [.agg [.int .i64 x9.Low, .int .i64 x9.High]], 0⟩])] rfl rfl (all1 (VRd.ntl (rd_max rfl rfl)) all0) ?_
          refine dops_rdW [(low, [⟨24, 2, [.agg [.int .i64 0, .int .i64 0]], 0⟩, ⟨24, 2, [.agg [.int .i64 s6.2.Low, .int .i64 s6.2.High]], 0⟩, ⟨24, 2, [.agg [.int .i64 x9.Low, .int .i64 x9.High]], 0⟩])] rfl rfl (all1 (VRd.ntl (rd_fieldAddr rfl tf_24_1 ts_3 (by decide))) all0) ?_
          refine dops_rdW [(low, [⟨24, 2, [.agg [.int .i64 0, .int .i64 0]], 0⟩, ⟨24, 2, [.agg [.int .i64 s6.2.Low, .int .i64 s6.2.High]], 0⟩, ⟨24, 2, [.agg [.int .i64 x9.Low, .int .i64 x9.High]], 0⟩])] rfl rfl (all1 (VRd.ntl (rd_load1 rfl (getO_N rfl rfl) rfl ta_3 rfl)) all0) ?_
          refine dops_rdW [(low, [⟨24, 2, [.agg [.int .i64 0, .int .i64 0]], 0⟩, ⟨24, 2, [.agg [.int .i64 s6.2.Low, .int .i64 s6.2.High]], 0⟩, ⟨24, 2, [.agg [.int .i64 x9.Low, .int .i64 x9.High]], 0⟩]), (low, [⟨24, 2, [.agg [.int .i64 0, .int .i64 0]], 0⟩, ⟨24, 2, [.agg [.int .i64 (max s6.2.Low x9.Low), .int .i64 s6.2.High]], 0⟩, ⟨24, 2, [.agg [.int .i64 x9.Low, .int .i64 x9.High]], 0⟩])] rfl rfl (all1 (VRd.ntl (rd_fieldAddr rfl tf_24_1 ts_3 (by decide))) (all1 (VRd.ntl (rd_fieldAddr rfl tf_24_1 ts_3 (by decide))) all0)) ?_
          refine dops_rdW [(low, [⟨24, 2, [.agg [.int .i64 0, .int .i64 0]], 0⟩, ⟨24, 2, [.agg [.int .i64 s6.2.Low, .int .i64 s6.2.High]], 0⟩, ⟨24, 2, [.agg [.int .i64 x9.Low, .int .i64 x9.High]], 0⟩]), (low, [⟨24, 2, [.agg [.int .i64 0, .int .i64 0]], 0⟩, ⟨24, 2, [.agg [.int .i64 (max s6.2.Low x9.Low), .int .i64 s6.2.High]], 0⟩, ⟨24, 2, [.agg [.int .i64 x9.Low, .int .i64 x9.High]], 0⟩])] rfl rfl (all1 (VRd.ntl (rd_load1 rfl (getO_N rfl rfl) rfl ta_3 rfl)) (all1 (VRd.ntl (rd_load1 rfl (getO_N rfl rfl) rfl ta_3 rfl)) all0)) ?_
          refine dops_rdW [(low, [⟨24, 2, [.agg [.int .i64 0, .int .i64 0]], 0⟩, ⟨24, 2, [.agg [.int .i64 s6.2.Low, .int .i64 s6.2.High]], 0⟩, ⟨24, 2, [.agg [.int .i64 x9.Low, .int .i64 x9.High]], 0⟩]), (low, [⟨24, 2, [.agg [.int .i64 0, .int .i64 0]], 0⟩, ⟨24, 2, [.agg [.int .i64 (max s6.2.Low x9.Low), .int .i64 s6.2.High]], 0⟩, ⟨24, 2, [.agg [.int .i64 x9.Low, .int .i64 x9.High]], 0⟩])] rfl rfl (all1 (VRd.ntl (rd_min rfl rfl)) (all1 (VRd.ntl (rd_min rfl rfl)) all0)) ?_
          refine dops_rdW [(low, [⟨24, 2, [.agg [.int .i64 0, .int .i64 0]], 0⟩, ⟨24, 2, [.agg [.int .i64 s6.2.Low, .int .i64 s6.2.High]], 0⟩, ⟨24, 2, [.agg [.int .i64 x9.Low, .int .i64 x9.High]], 0⟩])] rfl rfl (all1 (VRd.ntl (rd_fieldAddr rfl tf_24_0 ts_3 (by decide))) all0) ?_
          refine dops_ef (M := (low, [⟨24, 2, [.agg [.int .i64 0, .int .i64 0]], 0⟩, ⟨24, 2, [.agg [.int .i64 s6.2.Low, .int .i64 s6.2.High]], 0⟩, ⟨24, 2, [.agg [.int .i64 x9.Low, .int .i64 x9.High]], 0⟩])) (M' := (low, [⟨24, 2, [.agg [.int .i64 0, .int .i64 0]], 0⟩, ⟨24, 2, [.agg [.int .i64 (max s6.2.Low x9.Low), .int .i64 s6.2.High]], 0⟩, ⟨24, 2, [.agg [.int .i64 x9.Low, .int .i64 x9.High]], 0⟩])) rfl rfl rfl (vef_store (p := .int .i64 (max s6.2.Low x9.Low)) (e' := .agg [.int .i64 (max s6.2.Low x9.Low), .int .i64 s6.2.High]) rfl (getO_N rfl rfl) rfl rfl ts_3 rfl (nt_ne rfl) rfl (Nat.le_of_ble_eq_true rfl) rfl (setO_N rfl rfl)) ?_
          refine dops_rdW [(low, [⟨24, 2, [.agg [.int .i64 0, .int .i64 0]], 0⟩, ⟨24, 2, [.agg [.int .i64 (max s6.2.Low x9.Low), .int .i64 s6.2.High]], 0⟩, ⟨24, 2, [.agg [.int .i64 x9.Low, .int .i64 x9.High]], 0⟩])] rfl rfl (all1 (VRd.ntl (rd_fieldAddr rfl tf_24_1 ts_3 (by decide))) all0) ?_
          refine dops_ef (M := (low, [⟨24, 2, [.agg [.int .i64 0, .int .i64 0]], 0⟩, ⟨24, 2, [.agg [.int .i64 (max s6.2.Low x9.Low), .int .i64 s6.2.High]], 0⟩, ⟨24, 2, [.agg [.int .i64 x9.Low, .int .i64 x9.High]], 0⟩])) (M' := (low, [⟨24, 2, [.agg [.int .i64 0, .int .i64 0]], 0⟩, ⟨24, 2, [.agg [.int .i64 (max s6.2.Low x9.Low), .int .i64 (min s6.2.High x9.High)]], 0⟩, ⟨24, 2, [.agg [.int .i64 x9.Low, .int .i64 x9.High]], 0⟩])) rfl rfl rfl (vef_store (p := .int .i64 (min s6.2.High x9.High)) (e' := .agg [.int .i64 (max s6.2.Low x9.Low), .int .i64 (min s6.2.High x9.High)]) rfl (getO_N rfl rfl) rfl rfl ts_3 rfl (nt_ne rfl) rfl (Nat.le_of_ble_eq_true rfl) rfl (setO_N rfl rfl)) ?_
          refine dops_nil ?_
          refine vwp_region ?_
          refine vops_rd (rd_add rfl rfl rfl) rfl ?_
          refine vops_rd (rd_mvI rfl) rfl ?_
          refine vops_nil ?_
          obtain rfl := Option.some.inj hF
          refine onlyE ?_
          exact weak_pick rfl [(0, 0), (1, 0)] (by decide) ⟨rn_ptr 0 0 rfl rfl, rn_ptr 1 1 rfl rfl, rn_low rfl (.vs _ _), rn_low rfl (.int _ _), rn_low rfl (.int _ _), trivial⟩ ⟨⟨_, rfl, rfl, .same _ _ _ _ (ltObj_es ⟨(lt_agg ⟨.int _ _, .int _ _, trivial⟩), trivial⟩)⟩, ⟨_, rfl, rfl, .same _ _ _ _ (ltObj_es ⟨(lt_agg ⟨.int _ _, .int _ _, trivial⟩), trivial⟩)⟩, trivial⟩
        · have hF := bifF c8 hF
          refine vwp_exit ?_
          obtain rfl := Option.some.inj hF
          refine onlyE ?_
          exact weak_sub ⟨rfl, rfl, trivial⟩
      · rintro _ _ _ _ ⟨rfl, hw⟩
        refine ⟨_, _, _, hw, ?_⟩
        refine vwp_seq ?_
        refine vwp_seq ?_
        refine vwp_region ?_
        refine vops_rd (rd_fieldAddr rfl tf_24_0 ts_3 (by decide)) rfl ?_
        refine vops_rd (rd_load1 rfl (getO_N rfl rfl) rfl ta_3 rfl) rfl ?_
        refine vops_rd (rd_fieldAddr rfl tf_24_1 ts_3 (by decide)) rfl ?_
        refine vops_rd (rd_load1 rfl (getO_N rfl rfl) rfl ta_3 rfl) rfl ?_
        refine vops_rd (rd_gtr rfl rfl) rfl ?_
        refine vops_nil ?_
        refine vwp_cond rfl (fun c11 => ?_) (fun c11 => ?_)
        · have hF := bifT c11 hF
          refine vwp_seq ?_
          refine vwp_region ?_
          obtain ⟨x12, h13, hF⟩ := bnd hF
          refine vops_efE (vef_callP rfl Try.call30 (F_sensor_Nothing_ok h13 _)) rfl ?_
          refine vops_efE (vef_store (p := .agg [.int .i64 x12.Low, .int .i64 x12.High]) (e' := .agg [.int .i64 x12.Low, .int .i64 x12.High]) rfl (getO_N rfl rfl) rfl rfl ts_24 rfl (nt_ne rfl) rfl (Nat.le_of_ble_eq_true rfl) rfl (setO_N rfl rfl)) rfl ?_
          refine vops_rd (rd_asB rfl) rfl ?_
          refine vops_nil ?_
          refine vwp_ret ?_
          obtain rfl := Option.some.inj hF
          refine fnR ?_
          exact weak_pick rfl [(0, 0)] (by decide) ⟨rn_ptr 0 0 rfl rfl, rn_low rfl (.bool _), trivial⟩ ⟨⟨_, rfl, rfl, .same _ _ _ _ (ltObj_es ⟨(lt_agg ⟨.int _ _, .int _ _, trivial⟩), trivial⟩)⟩, trivial⟩
        · have hF := bifF c11 hF
          refine vwp_skip ?_
          refine vwp_seq ?_
          refine vwp_region ?_
          refine vops_rd (rd_loadN (ds := [.int .i64 o7.Low, .int .i64 o7.High]) rfl (getO_N rfl rfl) rfl ta_24 ts_24 rfl rfl rfl) rfl ?_
          refine vops_efE (vef_store (p := .agg [.int .i64 o7.Low, .int .i64 o7.High]) (e' := .agg [.int .i64 o7.Low, .int .i64 o7.High]) rfl (getO_N rfl rfl) rfl rfl ts_24 rfl (nt_ne rfl) rfl (Nat.le_of_ble_eq_true rfl) rfl (setO_N rfl rfl)) rfl ?_
          refine vops_rd (rd_asB rfl) rfl ?_
          refine vops_nil ?_
          refine vwp_ret ?_
          obtain rfl := Option.some.inj hF
          refine fnR ?_
          exact weak_pick rfl [(0, 0)] (by decide) ⟨rn_ptr 0 0 rfl rfl, rn_low rfl (.bool _), trivial⟩ ⟨⟨_, rfl, rfl, .same _ _ _ _ (ltObj_es ⟨(lt_agg ⟨.int _ _, .int _ _, trivial⟩), trivial⟩)⟩, trivial⟩
  · rintro _ _ _ _ ⟨he, hw⟩
    refine ⟨_, _, _, hw, ?_⟩
    exact bodyQ_pure he [.agg [.int .i64 r.1.Low, .int .i64 r.1.High], .bool r.2] ⟨rd_loadN rfl (getO_N rfl rfl) rfl ta_24 ts_24 rfl rfl rfl, rfl, trivial⟩ ((lt_tup ⟨(lt_agg ⟨.int _ _, .int _ _, trivial⟩), .bool _, trivial⟩)) ⟨rfl, rfl⟩

theorem F_sensor_in_ok {p0 : Int} {p1 : Int} {p2 : List Int} {r : Bool} (hF : F_sensor_in p0 p1 p2 = some r) (low : List AObj) :
    VCalls Try.prog 35 [.int .i64 p0, .int .i64 p1, .vs 1 (List.map (PV.int .i64) p2)] low fun x low' => x = .bool r ∧ low' = low := by
  refine vcalls_of_body (nt := 24) (rs := [.tmp 6]) Try.func35 rfl rfl (Nat.le_of_ble_eq_true rfl) rfl ?_
  refine vwp_monoW (Q' := FnE (fun E' lw lc => Weak E' lw lc [(6, .bool r)] low [])) ?_ ?_
  · unfold F_sensor_in at hF
    refine vwp_seq ?_
    refine vwp_region ?_
    refine vops_rd (rd_asB rfl) rfl ?_
    refine vops_nil ?_
    refine vwp_seq ?_
    refine vwp_seq ?_
    refine vwp_region ?_
    refine vops_rd (rd_mvV rfl) rfl ?_
    refine vops_rd (rd_to (rd_lenV rfl rfl te_56) (congrArg (fun n : Nat => PV.int .i64 (n : Int)) (List.length_map _))) rfl ?_
    refine vops_rd (rd_mvI rfl) rfl ?_
    refine vops_nil ?_
    refine vwp_block ?_
    obtain ⟨o2, ho2, hF⟩ := bnd hF
    refine vwp_monoW (vwp_loopC (F_sensor_in_L1 p0 p1 p2) (fun s1 E' lw lc => Weak E' lw lc [(0, .int .i64 p0), (1, .int .i64 p1), (9, .vs 1 (List.map (PV.int .i64) p2)), (10, .int .i64 ((p2).length : Int)), (11, .int .i64 s1)] low []) (Sum.elim (fun j3 => OnlyE .ret (fun E' lw lc => Weak E' lw lc [(6, .bool false)] low [])) (fun j4 => OnlyE (.exit 0) (fun E' lw lc => Weak E' lw lc [] low []))) ho2 ?_ (by rintro (_|_) _ _ _ ⟨h, _⟩ <;> cases h) ?_) ?_
    · exact weak_sub ⟨rfl, rfl, rfl, rfl, rfl, trivial⟩
    · rintro s1 os1 _ _ _ hF hw
      unfold F_sensor_in_L1 at hF
      refine vwp_weak hw ?_
      refine vwp_seq ?_
      refine vwp_region ?_
      refine vops_rd (rd_lss rfl rfl) rfl ?_
      refine vops_nil ?_
      refine vwp_seq ?_
      refine vwp_cond rfl (fun c5 => ?_) (fun c5 => ?_)
      · have hF := bifT c5 hF
        refine vwp_skip ?_
        refine vwp_seq ?_
        refine vwp_block ?_
        refine vwp_seq ?_
        refine vwp_region ?_
        obtain ⟨x6, h7, hF⟩ := bnd hF
        refine vops_rd (rd_to (rd_ixV rfl rfl h7 te_56 ts_3) (v' := .vptr [.int .i64 x6] 0) rfl) rfl ?_
        refine vops_rd (rd_loadV1 rfl ta_3 rfl) rfl ?_
        refine vops_rd (rd_asI rfl) rfl ?_
        refine vops_nil ?_
        refine vwp_seq ?_
        obtain ⟨o8, ho8, hF⟩ := bnd hF
        refine vwp_monoW (Q' := (fun o8 => OnlyE .normal (fun E' lw lc => Weak E' lw lc [(0, .int .i64 p0), (1, .int .i64 p1), (9, .vs 1 (List.map (PV.int .i64) p2)), (10, .int .i64 ((p2).length : Int)), (11, .int .i64 s1), (22, .bool o8)] low [])) o8) ?_ ?_
        · replace hF := ho8
          refine vwp_region ?_
          rcases Bool.eq_false_or_eq_true (decide (x6 < p0)) with c9 | c9
          · have hF := bifT c9 hF
            refine vops_rd (rd_mvI rfl) rfl ?_
            refine vops_rd (rd_mvI rfl) rfl ?_
            refine vops_rd (rd_lss rfl rfl) rfl ?_
            refine vops_rd (rd_mvB rfl) rfl ?_
            refine vops_skip rfl rfl (neT c9) rfl ?_
            refine vops_skip rfl rfl (neT c9) rfl ?_
            refine vops_skip rfl rfl (neT c9) rfl ?_
            refine vops_rd (rd_pickT (congrArg PV.bool c9) rfl) rfl ?_
            refine vops_nil ?_
            obtain rfl := Option.some.inj hF
            refine onlyE ?_
            exact weak_sub ⟨rfl, rfl, rfl, rfl, rfl, rfl, trivial⟩
          · have hF := bifF c9 hF
            refine vops_rd (rd_mvI rfl) rfl ?_
            refine vops_rd (rd_mvI rfl) rfl ?_
            refine vops_rd (rd_lss rfl rfl) rfl ?_
            refine vops_rd (rd_mvB rfl) rfl ?_
            refine vops_take rfl (congrArg PV.bool c9) ?_
            refine vops_rd (rd_mvI rfl) rfl ?_
            refine vops_take rfl (congrArg PV.bool c9) ?_
            refine vops_rd (rd_mvI rfl) rfl ?_
            refine vops_take rfl (congrArg PV.bool c9) ?_
            refine vops_rd (rd_gtr rfl rfl) rfl ?_
            refine vops_rd (rd_pickF (congrArg PV.bool c9) rfl) rfl ?_
            refine vops_nil ?_
            obtain rfl := Option.some.inj hF
            refine onlyE ?_
            exact weak_sub ⟨rfl, rfl, rfl, rfl, rfl, rfl, trivial⟩
        · rintro _ _ _ _ ⟨rfl, hw⟩
          refine ⟨_, _, _, hw, ?_⟩
          refine vwp_cond rfl (fun c10 => ?_) (fun c10 => ?_)
          · have hF := bifT c10 hF
            refine vwp_seq ?_
            refine vwp_region ?_
            refine vops_rd (rd_asB rfl) rfl ?_
            refine vops_nil ?_
            refine vwp_ret ?_
            obtain rfl := Option.some.inj hF
            refine onlyE ?_
            exact weak_sub ⟨rfl, trivial⟩
          · have hF := bifF c10 hF
            refine vwp_skip ?_
            refine vwp_region ?_
            refine vops_rd (rd_add rfl rfl rfl) rfl ?_
            refine vops_rd (rd_mvI rfl) rfl ?_
            refine vops_nil ?_
            obtain rfl := Option.some.inj hF
            refine onlyE ?_
            exact weak_sub ⟨rfl, rfl, rfl, rfl, rfl, trivial⟩
      · have hF := bifF c5 hF
        refine vwp_exit ?_
        obtain rfl := Option.some.inj hF
        refine onlyE ?_
        exact weak_sub trivial
    · rcases o2 with j3 | j4
      · replace hF := elimL hF
        rintro _ _ _ _ ⟨rfl, hw⟩
        refine ⟨_, _, _, hw, ?_⟩
        obtain rfl := Option.some.inj hF
        refine fnR ?_
        exact weak_sub ⟨rfl, trivial⟩
      · replace hF := elimR hF
        rintro _ _ _ _ ⟨rfl, hw⟩
        refine ⟨_, _, _, hw, ?_⟩
        refine vwp_seq ?_
        refine vwp_region ?_
        refine vops_rd (rd_asB rfl) rfl ?_
        refine vops_nil ?_
        refine vwp_ret ?_
        obtain rfl := Option.some.inj hF
        refine fnR ?_
        exact weak_sub ⟨rfl, trivial⟩
  · rintro _ _ _ _ ⟨he, hw⟩
    refine ⟨_, _, _, hw, ?_⟩
    exact bodyQ_pure he [.bool r] ⟨rfl, trivial⟩ (.bool _) ⟨rfl, rfl⟩

theorem F_sensor_Check_ok {p0 : T_Sensor} {r : Int} (hF : F_sensor_Check p0 = some r) (low : List AObj) :
    VCalls Try.prog 31 [.agg [.int .i64 p0.Address, .int .i64 p0.Kind, .int .i64 p0.Target, .int .i64 p0.Offset, .int .i64 p0.Scale, .int .i64 p0.Error, .int .i64 p0.Drift, .int .i64 p0.Life]] low fun x low' => x = .int .i64 r ∧ low' = low := by
  refine vcalls_of_body (nt := 44) (rs := [.tmp 2]) Try.func31 rfl rfl (Nat.le_of_ble_eq_true rfl) rfl ?_
  refine vwp_monoW (Q' := FnE (fun E' lw lc => Weak E' lw lc [(2, .int .i64 r)] low [])) ?_ ?_
  · unfold F_sensor_Check at hF
    refine vwp_seq ?_
    refine vwp_region ?_
    refine vops_efE (vef_boxN rfl rfl (v := .agg [.int .i64 p0.Address, .int .i64 p0.Kind, .int .i64 p0.Target, .int .i64 p0.Offset, .int .i64 p0.Scale, .int .i64 p0.Error, .int .i64 p0.Drift, .int .i64 p0.Life]) rfl rfl (Nat.succ_pos _) rfl rfl) rfl ?_
    refine vops_rd (rd_asI rfl) rfl ?_
    refine vops_nil ?_
    refine vwp_seq ?_
    refine vwp_block ?_
    refine vwp_seq ?_
    refine vwp_region ?_
    obtain ⟨x1, h2, hF⟩ := bnd hF
    refine vops_rd (rd_fieldAddr rfl tf_35_1 ts_3 (by decide)) rfl ?_
    refine vops_rd (rd_load1 rfl (getO_N rfl rfl) rfl ta_3 rfl) rfl ?_
    refine vops_efE (vef_litF (es := List.map (PV.int .i64) [p0.Kind]) ⟨rfl, rfl, trivial⟩ rfl rfl (nt_all rfl) te_56 ts_3 tz_3 rfl rfl (Nat.succ_pos _) (by decide) (lt_map (fun _ => .int _ _))) rfl ?_
    refine vops_efE (vef_callP rfl Try.call35 (F_sensor_in_ok h2 _)) rfl ?_
    refine vops_rd (rd_not rfl) rfl ?_
    refine vops_rd (rd_asB rfl) rfl ?_
    refine vops_nil ?_
    refine vwp_cond rfl (fun c3 => ?_) (fun c3 => ?_)
    · have hF := bifT c3 hF
      refine vwp_seq ?_
      refine vwp_region ?_
      refine vops_rd (rd_asI rfl) rfl ?_
      refine vops_nil ?_
      refine vwp_ret ?_
      obtain rfl := Option.some.inj hF
      refine fnR ?_
      exact weak_pick rfl [] (by decide) ⟨rn_low rfl (.int _ _), trivial⟩ trivial
    · have hF := bifF c3 hF
      refine vwp_seq ?_
      obtain ⟨o4, ho4, hF⟩ := bnd hF
      refine vwp_monoW (Q' := (fun o4 => OnlyE .normal (fun E' lw lc => Weak E' lw lc [(1, .ptr (low.length + 0) 0 0 0), (9, .bool o4)] low [⟨35, 8, [.agg [.int .i64 p0.Address, .int .i64 p0.Kind, .int .i64 p0.Target, .int .i64 p0.Offset, .int .i64 p0.Scale, .int .i64 p0.Error, .int .i64 p0.Drift, .int .i64 p0.Life]], 0⟩])) o4) ?_ ?_
      · replace hF := ho4
        refine vwp_region ?_
        obtain ⟨x5, h6, hF⟩ := bnd hF
        rcases Bool.eq_false_or_eq_true (!x5) with c7 | c7
        · have hF := bifT c7 hF
          refine vops_rd (rd_fieldAddr rfl tf_35_0 ts_3 (by decide)) rfl ?_
          refine vops_rd (rd_load1 rfl (getO_N rfl rfl) rfl ta_3 rfl) rfl ?_
          refine vops_efE (vef_litF (es := List.map (PV.int .i64) [p0.Address]) ⟨rfl, rfl, trivial⟩ rfl rfl (nt_all rfl) te_56 ts_3 tz_3 rfl rfl (Nat.succ_pos _) (by decide) (lt_map (fun _ => .int _ _))) rfl ?_
          refine vops_efE (vef_callP rfl Try.call35 (F_sensor_in_ok h6 _)) rfl ?_
          refine vops_rd (rd_not rfl) rfl ?_
          refine vops_rd (rd_mvB rfl) rfl ?_
          refine vops_skip rfl rfl (neT c7) rfl ?_
          refine vops_skip rfl rfl (neT c7) rfl ?_
          refine vops_skip rfl rfl (neT c7) rfl ?_
          refine vops_rd (rd_pickT (congrArg PV.bool c7) rfl) rfl ?_
          refine vops_rd (rd_mvB rfl) rfl ?_
          refine vops_skip rfl rfl (by decide) rfl ?_
          refine vops_skip rfl rfl (by decide) rfl ?_
          refine vops_skip rfl rfl (by decide) rfl ?_
          refine vops_skip rfl rfl (by decide) rfl ?_
          refine vops_skip rfl rfl (by decide) rfl ?_
          refine vops_skip rfl rfl (by decide) rfl ?_
          refine vops_skip rfl rfl (by decide) rfl ?_
          refine vops_rd (rd_pickT rfl rfl) rfl ?_
          refine vops_rd (rd_asB rfl) rfl ?_
          refine vops_nil ?_
          obtain rfl := Option.some.inj hF
          refine onlyE ?_
          exact weak_sub ⟨rfl, rfl, trivial⟩
        · have hF := bifF c7 hF
          rcases Bool.eq_false_or_eq_true (decide (p0.Target < 0)) with c8 | c8
          · have hF := bifT c8 hF
            refine vops_rd (rd_fieldAddr rfl tf_35_0 ts_3 (by decide)) rfl ?_
            refine vops_rd (rd_load1 rfl (getO_N rfl rfl) rfl ta_3 rfl) rfl ?_
            refine vops_efE (vef_litF (es := List.map (PV.int .i64) [p0.Address]) ⟨rfl, rfl, trivial⟩ rfl rfl (nt_all rfl) te_56 ts_3 tz_3 rfl rfl (Nat.succ_pos _) (by decide) (lt_map (fun _ => .int _ _))) rfl ?_
            refine vops_efE (vef_callP rfl Try.call35 (F_sensor_in_ok h6 _)) rfl ?_
            refine vops_rd (rd_not rfl) rfl ?_
            refine vops_rd (rd_mvB rfl) rfl ?_
            refine vops_take rfl (congrArg PV.bool c7) ?_
            refine vops_rd (rd_fieldAddr rfl tf_35_2 ts_3 (by decide)) rfl ?_
            refine vops_take rfl (congrArg PV.bool c7) ?_
            refine vops_rd (rd_load1 rfl (getO_N rfl rfl) rfl ta_3 rfl) rfl ?_
            refine vops_take rfl (congrArg PV.bool c7) ?_
            refine vops_rd (rd_lss rfl rfl) rfl ?_
            refine vops_rd (rd_pickF (congrArg PV.bool c7) rfl) rfl ?_
            refine vops_rd (rd_mvB rfl) rfl ?_
            refine vops_skip rfl rfl (neT c8) rfl ?_
            refine vops_skip rfl rfl (neT c8) rfl ?_
            refine vops_skip rfl rfl (neT c8) rfl ?_
            refine vops_skip rfl rfl (neT c8) rfl ?_
            refine vops_skip rfl rfl (neT c8) rfl ?_
            refine vops_skip rfl rfl (neT c8) rfl ?_
            refine vops_skip rfl rfl (neT c8) rfl ?_
            refine vops_rd (rd_pickT (congrArg PV.bool c8) rfl) rfl ?_
            refine vops_rd (rd_asB rfl) rfl ?_
            refine vops_nil ?_
            obtain rfl := Option.some.inj hF
            refine onlyE ?_
            exact weak_sub ⟨rfl, rfl, trivial⟩
          · have hF := bifF c8 hF
            obtain ⟨x9, h10, hF⟩ := bnd hF
            refine vops_rd (rd_fieldAddr rfl tf_35_0 ts_3 (by decide)) rfl ?_
            refine vops_rd (rd_load1 rfl (getO_N rfl rfl) rfl ta_3 rfl) rfl ?_
            refine vops_efE (vef_litF (es := List.map (PV.int .i64) [p0.Address]) ⟨rfl, rfl, trivial⟩ rfl rfl (nt_all rfl) te_56 ts_3 tz_3 rfl rfl (Nat.succ_pos _) (by decide) (lt_map (fun _ => .int _ _))) rfl ?_
            refine vops_efE (vef_callP rfl Try.call35 (F_sensor_in_ok h6 _)) rfl ?_
            refine vops_rd (rd_not rfl) rfl ?_
            refine vops_rd (rd_mvB rfl) rfl ?_
            refine vops_take rfl (congrArg PV.bool c7) ?_
            refine vops_rd (rd_fieldAddr rfl tf_35_2 ts_3 (by decide)) rfl ?_
            refine vops_take rfl (congrArg PV.bool c7) ?_
            refine vops_rd (rd_load1 rfl (getO_N rfl rfl) rfl ta_3 rfl) rfl ?_
            refine vops_take rfl (congrArg PV.bool c7) ?_
            refine vops_rd (rd_lss rfl rfl) rfl ?_
            refine vops_rd (rd_pickF (congrArg PV.bool c7) rfl) rfl ?_
            refine vops_rd (rd_mvB rfl) rfl ?_
            refine vops_take rfl (congrArg PV.bool c8) ?_
            refine vops_rd (rd_fieldAddr rfl tf_35_3 ts_3 (by decide)) rfl ?_
            refine vops_take rfl (congrArg PV.bool c8) ?_
            refine vops_rd (rd_load1 rfl (getO_N rfl rfl) rfl ta_3 rfl) rfl ?_
            refine vops_take rfl (congrArg PV.bool c8) ?_
            refine vops_rd (rd_fieldAddr rfl tf_35_4 ts_3 (by decide)) rfl ?_
            refine vops_take rfl (congrArg PV.bool c8) ?_
            refine vops_rd (rd_load1 rfl (getO_N rfl rfl) rfl ta_3 rfl) rfl ?_
            refine vops_take rfl (congrArg PV.bool c8) ?_
            refine vops_efE (vef_litF (es := List.map (PV.int .i64) [p0.Offset, p0.Scale]) ⟨rfl, rfl, rfl, rfl, trivial⟩ rfl rfl (nt_all rfl) te_56 ts_3 tz_3 rfl rfl (Nat.succ_pos _) (by decide) (lt_map (fun _ => .int _ _))) rfl ?_
            refine vops_take rfl (congrArg PV.bool c8) ?_
            refine vops_efE (vef_callP rfl Try.call35 (F_sensor_in_ok h10 _)) rfl ?_
            refine vops_take rfl (congrArg PV.bool c8) ?_
            refine vops_rd (rd_not rfl) rfl ?_
            refine vops_rd (rd_pickF (congrArg PV.bool c8) rfl) rfl ?_
            refine vops_rd (rd_asB rfl) rfl ?_
            refine vops_nil ?_
            obtain rfl := Option.some.inj hF
            refine onlyE ?_
            exact weak_sub ⟨rfl, rfl, trivial⟩
      · rintro _ _ _ _ ⟨rfl, hw⟩
        refine ⟨_, _, _, hw, ?_⟩
        refine vwp_cond rfl (fun c11 => ?_) (fun c11 => ?_)
        · have hF := bifT c11 hF
          refine vwp_seq ?_
          refine vwp_region ?_
          refine vops_rd (rd_asI rfl) rfl ?_
          refine vops_nil ?_
          refine vwp_ret ?_
          obtain rfl := Option.some.inj hF
          refine fnR ?_
          exact weak_pick rfl [] (by decide) ⟨rn_low rfl (.int _ _), trivial⟩ trivial
        · have hF := bifF c11 hF
          refine vwp_seq ?_
          obtain ⟨o12, ho12, hF⟩ := bnd hF
          refine vwp_monoW (Q' := (fun o12 => OnlyE .normal (fun E' lw lc => Weak E' lw lc [(29, .bool o12)] low [])) o12) ?_ ?_
          · replace hF := ho12
            refine vwp_region ?_
            obtain ⟨x13, h14, hF⟩ := bnd hF
            rcases Bool.eq_false_or_eq_true (!x13) with c15 | c15
            · have hF := bifT c15 hF
              refine vops_rd (rd_fieldAddr rfl tf_35_5 ts_3 (by decide)) rfl ?_
              refine vops_rd (rd_load1 rfl (getO_N rfl rfl) rfl ta_3 rfl) rfl ?_
              refine vops_rd (rd_fieldAddr rfl tf_35_6 ts_3 (by decide)) rfl ?_
              refine vops_rd (rd_load1 rfl (getO_N rfl rfl) rfl ta_3 rfl) rfl ?_
              refine vops_efE (vef_litF (es := List.map (PV.int .i64) [p0.Error, p0.Drift]) ⟨rfl, rfl, rfl, rfl, trivial⟩ rfl rfl (nt_all rfl) te_56 ts_3 tz_3 rfl rfl (Nat.succ_pos _) (by decide) (lt_map (fun _ => .int _ _))) rfl ?_
              refine vops_efE (vef_callP rfl Try.call35 (F_sensor_in_ok h14 _)) rfl ?_
              refine vops_rd (rd_not rfl) rfl ?_
              refine vops_rd (rd_mvB rfl) rfl ?_
              refine vops_skip rfl rfl (neT c15) rfl ?_
              refine vops_skip rfl rfl (neT c15) rfl ?_
              refine vops_skip rfl rfl (neT c15) rfl ?_
              refine vops_skip rfl rfl (neT c15) rfl ?_
              refine vops_skip rfl rfl (neT c15) rfl ?_
              refine vops_rd (rd_pickT (congrArg PV.bool c15) rfl) rfl ?_
              refine vops_rd (rd_asB rfl) rfl ?_
              refine vops_nil ?_
              obtain rfl := Option.some.inj hF
              refine onlyE ?_
              exact weak_pick rfl [] (by decide) ⟨rn_low rfl (.bool _), trivial⟩ trivial
            · have hF := bifF c15 hF
              obtain ⟨x16, h17, hF⟩ := bnd hF
              refine vops_rd (rd_fieldAddr rfl tf_35_5 ts_3 (by decide)) rfl ?_
              refine vops_rd (rd_load1 rfl (getO_N rfl rfl) rfl ta_3 rfl) rfl ?_
              refine vops_rd (rd_fieldAddr rfl tf_35_6 ts_3 (by decide)) rfl ?_
              refine vops_rd (rd_load1 rfl (getO_N rfl rfl) rfl ta_3 rfl) rfl ?_
              refine vops_efE (vef_litF (es := List.map (PV.int .i64) [p0.Error, p0.Drift]) ⟨rfl, rfl, rfl, rfl, trivial⟩ rfl rfl (nt_all rfl) te_56 ts_3 tz_3 rfl rfl (Nat.succ_pos _) (by decide) (lt_map (fun _ => .int _ _))) rfl ?_
              refine vops_efE (vef_callP rfl Try.call35 (F_sensor_in_ok h14 _)) rfl ?_
              refine vops_rd (rd_not rfl) rfl ?_
              refine vops_rd (rd_mvB rfl) rfl ?_
              refine vops_take rfl (congrArg PV.bool c15) ?_
              refine vops_rd (rd_fieldAddr rfl tf_35_7 ts_3 (by decide)) rfl ?_
              refine vops_take rfl (congrArg PV.bool c15) ?_
              refine vops_rd (rd_load1 rfl (getO_N rfl rfl) rfl ta_3 rfl) rfl ?_
              refine vops_take rfl (congrArg PV.bool c15) ?_
              refine vops_efE (vef_litF (es := List.map (PV.int .i64) [p0.Life]) ⟨rfl, rfl, trivial⟩ rfl rfl (nt_all rfl) te_56 ts_3 tz_3 rfl rfl (Nat.succ_pos _) (by decide) (lt_map (fun _ => .int _ _))) rfl ?_
              refine vops_take rfl (congrArg PV.bool c15) ?_
              refine vops_efE (vef_callP rfl Try.call35 (F_sensor_in_ok h17 _)) rfl ?_
              refine vops_take rfl (congrArg PV.bool c15) ?_
              refine vops_rd (rd_not rfl) rfl ?_
              refine vops_rd (rd_pickF (congrArg PV.bool c15) rfl) rfl ?_
              refine vops_rd (rd_asB rfl) rfl ?_
              refine vops_nil ?_
              obtain rfl := Option.some.inj hF
              refine onlyE ?_
              exact weak_pick rfl [] (by decide) ⟨rn_low rfl (.bool _), trivial⟩ trivial
          · rintro _ _ _ _ ⟨rfl, hw⟩
            refine ⟨_, _, _, hw, ?_⟩
            refine vwp_cond rfl (fun c18 => ?_) (fun c18 => ?_)
            · have hF := bifT c18 hF
              refine vwp_seq ?_
              refine vwp_region ?_
              refine vops_rd (rd_asI rfl) rfl ?_
              refine vops_nil ?_
              refine vwp_ret ?_
              obtain rfl := Option.some.inj hF
              refine fnR ?_
              exact weak_sub ⟨rfl, trivial⟩
            · have hF := bifF c18 hF
              refine vwp_skip ?_
              refine vwp_seq ?_
              refine vwp_region ?_
              refine vops_rd (rd_asI rfl) rfl ?_
              refine vops_nil ?_
              refine vwp_ret ?_
              obtain rfl := Option.some.inj hF
              refine fnR ?_
              exact weak_sub ⟨rfl, trivial⟩
  · rintro _ _ _ _ ⟨he, hw⟩
    refine ⟨_, _, _, hw, ?_⟩
    exact bodyQ_pure he [.int .i64 r] ⟨rfl, trivial⟩ (.int _ _) ⟨rfl, rfl⟩

theorem F_window_plain_ok {p0 : Int} {r : Bool} (hF : F_window_plain p0 = some r) (low : List AObj) :
    VCalls Try.prog 32 [.int .i64 p0] low fun x low' => x = .bool r ∧ low' = low := by
  refine vcalls_of_body (nt := 13) (rs := [.tmp 2]) Try.func32 rfl rfl (Nat.le_of_ble_eq_true rfl) rfl ?_
  refine vwp_monoW (Q' := FnE (fun E' lw lc => Weak E' lw lc [(2, .bool r)] low [])) ?_ ?_
  · unfold F_window_plain at hF
    refine vwp_seq ?_
    refine vwp_region ?_
    refine vops_rd (rd_asB rfl) rfl ?_
    refine vops_nil ?_
    refine vwp_seq ?_
    refine vwp_region ?_
    rcases Bool.eq_false_or_eq_true (decide (p0 = 4)) with c1 | c1
    · have hF := bifT c1 hF
      refine vops_rd (rd_mvI rfl) rfl ?_
      refine vops_rd (rd_eql rfl rfl) rfl ?_
      refine vops_rd (rd_mvB rfl) rfl ?_
      refine vops_skip rfl rfl (neT c1) rfl ?_
      refine vops_skip rfl rfl (neT c1) rfl ?_
      refine vops_rd (rd_pickT (congrArg PV.bool c1) rfl) rfl ?_
      refine vops_rd (rd_mvB rfl) rfl ?_
      refine vops_skip rfl rfl (by decide) rfl ?_
      refine vops_skip rfl rfl (by decide) rfl ?_
      refine vops_rd (rd_pickT rfl rfl) rfl ?_
      refine vops_rd (rd_asB rfl) rfl ?_
      refine vops_nil ?_
      refine vwp_ret ?_
      obtain rfl := Option.some.inj hF
      refine fnR ?_
      exact weak_sub ⟨rfl, trivial⟩
    · have hF := bifF c1 hF
      rcases Bool.eq_false_or_eq_true (decide (p0 = 5)) with c2 | c2
      · have hF := bifT c2 hF
        refine vops_rd (rd_mvI rfl) rfl ?_
        refine vops_rd (rd_eql rfl rfl) rfl ?_
        refine vops_rd (rd_mvB rfl) rfl ?_
        refine vops_take rfl (congrArg PV.bool c1) ?_
        refine vops_rd (rd_mvI rfl) rfl ?_
        refine vops_take rfl (congrArg PV.bool c1) ?_
        refine vops_rd (rd_eql rfl rfl) rfl ?_
        refine vops_rd (rd_pickF (congrArg PV.bool c1) rfl) rfl ?_
        refine vops_rd (rd_mvB rfl) rfl ?_
        refine vops_skip rfl rfl (neT c2) rfl ?_
        refine vops_skip rfl rfl (neT c2) rfl ?_
        refine vops_rd (rd_pickT (congrArg PV.bool c2) rfl) rfl ?_
        refine vops_rd (rd_asB rfl) rfl ?_
        refine vops_nil ?_
        refine vwp_ret ?_
        obtain rfl := Option.some.inj hF
        refine fnR ?_
        exact weak_sub ⟨rfl, trivial⟩
      · have hF := bifF c2 hF
        refine vops_rd (rd_mvI rfl) rfl ?_
        refine vops_rd (rd_eql rfl rfl) rfl ?_
        refine vops_rd (rd_mvB rfl) rfl ?_
        refine vops_take rfl (congrArg PV.bool c1) ?_
        refine vops_rd (rd_mvI rfl) rfl ?_
        refine vops_take rfl (congrArg PV.bool c1) ?_
        refine vops_rd (rd_eql rfl rfl) rfl ?_
        refine vops_rd (rd_pickF (congrArg PV.bool c1) rfl) rfl ?_
        refine vops_rd (rd_mvB rfl) rfl ?_
        refine vops_take rfl (congrArg PV.bool c2) ?_
        refine vops_rd (rd_mvI rfl) rfl ?_
        refine vops_take rfl (congrArg PV.bool c2) ?_
        refine vops_rd (rd_eql rfl rfl) rfl ?_
        refine vops_rd (rd_pickF (congrArg PV.bool c2) rfl) rfl ?_
        refine vops_rd (rd_asB rfl) rfl ?_
        refine vops_nil ?_
        refine vwp_ret ?_
        obtain rfl := Option.some.inj hF
        refine fnR ?_
        exact weak_sub ⟨rfl, trivial⟩
  · rintro _ _ _ _ ⟨he, hw⟩
    refine ⟨_, _, _, hw, ?_⟩
    exact bodyQ_pure he [.bool r] ⟨rfl, trivial⟩ (.bool _) ⟨rfl, rfl⟩

theorem F_window_At_ok {p0 : T_Sensor} {p1 : T_Measure} {p2 : Int} {r : T_Span} (hF : F_window_At p0 p1 p2 = some r) (low : List AObj) :
    VCalls Try.prog 19 [.agg [.int .i64 p0.Address, .int .i64 p0.Kind, .int .i64 p0.Target, .int .i64 p0.Offset, .int .i64 p0.Scale, .int .i64 p0.Error, .int .i64 p0.Drift, .int .i64 p0.Life], .agg [.int .i64 p1.Sensor, .int .i64 p1.Time, .int .i64 p1.Span.Low, .int .i64 p1.Span.High], .int .i64 p2] low fun x low' => x = .agg [.int .i64 r.Low, .int .i64 r.High] ∧ low' = low := by
  refine vcalls_of_body (nt := 83) (rs := [.cell 6 24]) Try.func19 rfl rfl (Nat.le_of_ble_eq_true rfl) rfl ?_
  refine vwp_monoW (Q' := FnE (fun E' lw lc => Weak E' lw lc [(6, .ptr (low.length + 0) 0 0 0)] low [⟨24, 2, [.agg [.int .i64 r.Low, .int .i64 r.High]], 0⟩])) ?_ ?_
  · unfold F_window_At at hF
    refine vwp_seq ?_
    refine vwp_region ?_
    refine vops_efE (vef_boxN rfl rfl (v := .agg [.int .i64 p0.Address, .int .i64 p0.Kind, .int .i64 p0.Target, .int .i64 p0.Offset, .int .i64 p0.Scale, .int .i64 p0.Error, .int .i64 p0.Drift, .int .i64 p0.Life]) rfl rfl (Nat.succ_pos _) rfl rfl) rfl ?_
    refine vops_efE (vef_boxN rfl rfl (v := .agg [.int .i64 p1.Sensor, .int .i64 p1.Time, .int .i64 p1.Span.Low, .int .i64 p1.Span.High]) rfl rfl (Nat.succ_pos _) rfl rfl) rfl ?_
    refine vops_efE (vef_allocN rfl rfl tz_24 rfl rfl (Nat.succ_pos _) rfl) rfl ?_
    refine vops_nil ?_
    refine vwp_seq ?_
    refine vwp_region ?_
    obtain ⟨x1, h2, hF⟩ := bnd hF
    refine vops_efE (vef_callP rfl Try.call30 (F_sensor_Nothing_ok h2 _)) rfl ?_
    refine vops_efE (vef_allocN rfl rfl tz_24 rfl rfl (Nat.succ_pos _) rfl) rfl ?_
    refine vops_efE (vef_store (p := .agg [.int .i64 x1.Low, .int .i64 x1.High]) (e' := .agg [.int .i64 x1.Low, .int .i64 x1.High]) rfl (getO_N rfl rfl) rfl rfl ts_24 rfl (nt_ne rfl) rfl (Nat.le_of_ble_eq_true rfl) rfl (setO_N rfl rfl)) rfl ?_
    refine vops_nil ?_
    refine vwp_seq ?_
    refine vwp_seq ?_
    obtain ⟨o3, ho3, hF⟩ := bnd hF
    refine vwp_monoW (Q' := (fun o3 => OnlyE .normal (fun E' lw lc => Weak E' lw lc [(2, .int .i64 p2), (3, .ptr (low.length + 0) 0 0 0), (4, .ptr (low.length + 1) 0 0 0), (6, .ptr (low.length + 2) 0 0 0), (7, .ptr (low.length + 3) 0 0 0), (39, .bool o3)] low [⟨35, 8, [.agg [.int .i64 p0.Address, .int .i64 p0.Kind, .int .i64 p0.Target, .int .i64 p0.Offset, .int .i64 p0.Scale, .int .i64 p0.Error, .int .i64 p0.Drift, .int .i64 p0.Life]], 0⟩, ⟨26, 4, [.agg [.int .i64 p1.Sensor, .int .i64 p1.Time, .int .i64 p1.Span.Low, .int .i64 p1.Span.High]], 0⟩, ⟨24, 2, [.agg [.int .i64 0, .int .i64 0]], 0⟩, ⟨24, 2, [.agg [.int .i64 x1.Low, .int .i64 x1.High]], 0⟩])) o3) ?_ ?_
    · replace hF := ho3
      refine vwp_region ?_
      obtain ⟨x4, h5, hF⟩ := bnd hF
      rcases Bool.eq_false_or_eq_true (decide (x4 ≠ 0)) with c6 | c6
      · have hF := bifT c6 hF
        refine vops_rd (rd_loadN (ds := [.int .i64 p0.Address, .int .i64 p0.Kind, .int .i64 p0.Target, .int .i64 p0.Offset, .int .i64 p0.Scale, .int .i64 p0.Error, .int .i64 p0.Drift, .int .i64 p0.Life]) rfl (getO_N rfl rfl) rfl ta_35 ts_35 rfl rfl rfl) rfl ?_
        refine vops_efE (vef_callP rfl Try.call31 (F_sensor_Check_ok h5 _)) rfl ?_
        refine vops_rd (rd_neq rfl rfl) rfl ?_
        refine vops_rd (rd_mvB rfl) rfl ?_
        refine vops_skip rfl rfl (neT c6) rfl ?_
        refine vops_skip rfl rfl (neT c6) rfl ?_
        refine vops_skip rfl rfl (neT c6) rfl ?_
        refine vops_rd (rd_pickT (congrArg PV.bool c6) rfl) rfl ?_
        refine vops_rd (rd_mvB rfl) rfl ?_
        refine vops_skip rfl rfl (by decide) rfl ?_
        refine vops_skip rfl rfl (by decide) rfl ?_
        refine vops_skip rfl rfl (by decide) rfl ?_
        refine vops_skip rfl rfl (by decide) rfl ?_
        refine vops_rd (rd_pickT rfl rfl) rfl ?_
        refine vops_rd (rd_mvB rfl) rfl ?_
        refine vops_skip rfl rfl (by decide) rfl ?_
        refine vops_skip rfl rfl (by decide) rfl ?_
        refine vops_skip rfl rfl (by decide) rfl ?_
        refine vops_skip rfl rfl (by decide) rfl ?_
        refine vops_rd (rd_pickT rfl rfl) rfl ?_
        refine vops_rd (rd_mvB rfl) rfl ?_
        refine vops_skip rfl rfl (by decide) rfl ?_
        refine vops_skip rfl rfl (by decide) rfl ?_
        refine vops_skip rfl rfl (by decide) rfl ?_
        refine vops_skip rfl rfl (by decide) rfl ?_
        refine vops_skip rfl rfl (by decide) rfl ?_
        refine vops_skip rfl rfl (by decide) rfl ?_
        refine vops_skip rfl rfl (by decide) rfl ?_
        refine vops_rd (rd_pickT rfl rfl) rfl ?_
        refine vops_nil ?_
        obtain rfl := Option.some.inj hF
        refine onlyE ?_
        exact weak_sub ⟨rfl, rfl, rfl, rfl, rfl, rfl, trivial⟩
      · have hF := bifF c6 hF
        rcases Bool.eq_false_or_eq_true (decide (p1.Sensor < 0)) with c7 | c7
        · have hF := bifT c7 hF
          refine vops_rd (rd_loadN (ds := [.int .i64 p0.Address, .int .i64 p0.Kind, .int .i64 p0.Target, .int .i64 p0.Offset, .int .i64 p0.Scale, .int .i64 p0.Error, .int .i64 p0.Drift, .int .i64 p0.Life]) rfl (getO_N rfl rfl) rfl ta_35 ts_35 rfl rfl rfl) rfl ?_
          refine vops_efE (vef_callP rfl Try.call31 (F_sensor_Check_ok h5 _)) rfl ?_
          refine vops_rd (rd_neq rfl rfl) rfl ?_
          refine vops_rd (rd_mvB rfl) rfl ?_
          refine vops_take rfl (congrArg PV.bool c6) ?_
          refine vops_rd (rd_fieldAddr rfl tf_26_0 ts_3 (by decide)) rfl ?_
          refine vops_take rfl (congrArg PV.bool c6) ?_
          refine vops_rd (rd_load1 rfl (getO_N rfl rfl) rfl ta_3 rfl) rfl ?_
          refine vops_take rfl (congrArg PV.bool c6) ?_
          refine vops_rd (rd_lss rfl rfl) rfl ?_
          refine vops_rd (rd_pickF (congrArg PV.bool c6) rfl) rfl ?_
          refine vops_rd (rd_mvB rfl) rfl ?_
          refine vops_skip rfl rfl (neT c7) rfl ?_
          refine vops_skip rfl rfl (neT c7) rfl ?_
          refine vops_skip rfl rfl (neT c7) rfl ?_
          refine vops_skip rfl rfl (neT c7) rfl ?_
          refine vops_rd (rd_pickT (congrArg PV.bool c7) rfl) rfl ?_
          refine vops_rd (rd_mvB rfl) rfl ?_
          refine vops_skip rfl rfl (by decide) rfl ?_
          refine vops_skip rfl rfl (by decide) rfl ?_
          refine vops_skip rfl rfl (by decide) rfl ?_
          refine vops_skip rfl rfl (by decide) rfl ?_
          refine vops_rd (rd_pickT rfl rfl) rfl ?_
          refine vops_rd (rd_mvB rfl) rfl ?_
          refine vops_skip rfl rfl (by decide) rfl ?_
          refine vops_skip rfl rfl (by decide) rfl ?_
          refine vops_skip rfl rfl (by decide) rfl ?_
          refine vops_skip rfl rfl (by decide) rfl ?_
          refine vops_skip rfl rfl (by decide) rfl ?_
          refine vops_skip rfl rfl (by decide) rfl ?_
          refine vops_skip rfl rfl (by decide) rfl ?_
          refine vops_rd (rd_pickT rfl rfl) rfl ?_
          refine vops_nil ?_
          obtain rfl := Option.some.inj hF
          refine onlyE ?_
          exact weak_sub ⟨rfl, rfl, rfl, rfl, rfl, rfl, trivial⟩
        · have hF := bifF c7 hF
          rcases Bool.eq_false_or_eq_true ((p1.Span.Low == x1.Low) && ((p1.Span.High == x1.High) && true)) with c8 | c8
          · have hF := bifT c8 hF
            refine vops_rd (rd_loadN (ds := [.int .i64 p0.Address, .int .i64 p0.Kind, .int .i64 p0.Target, .int .i64 p0.Offset, .int .i64 p0.Scale, .int .i64 p0.Error, .int .i64 p0.Drift, .int .i64 p0.Life]) rfl (getO_N rfl rfl) rfl ta_35 ts_35 rfl rfl rfl) rfl ?_
            refine vops_efE (vef_callP rfl Try.call31 (F_sensor_Check_ok h5 _)) rfl ?_
            refine vops_rd (rd_neq rfl rfl) rfl ?_
            refine vops_rd (rd_mvB rfl) rfl ?_
            refine vops_take rfl (congrArg PV.bool c6) ?_
            refine vops_rd (rd_fieldAddr rfl tf_26_0 ts_3 (by decide)) rfl ?_
            refine vops_take rfl (congrArg PV.bool c6) ?_
            refine vops_rd (rd_load1 rfl (getO_N rfl rfl) rfl ta_3 rfl) rfl ?_
            refine vops_take rfl (congrArg PV.bool c6) ?_
            refine vops_rd (rd_lss rfl rfl) rfl ?_
            refine vops_rd (rd_pickF (congrArg PV.bool c6) rfl) rfl ?_
            refine vops_rd (rd_mvB rfl) rfl ?_
            refine vops_take rfl (congrArg PV.bool c7) ?_
            refine vops_rd (rd_fieldAddr rfl tf_26_2 ts_24 (by decide)) rfl ?_
            refine vops_take rfl (congrArg PV.bool c7) ?_
            refine vops_rd (rd_loadN (ds := [.int .i64 p1.Span.Low, .int .i64 p1.Span.High]) rfl (getO_N rfl rfl) rfl ta_24 ts_24 rfl rfl rfl) rfl ?_
            refine vops_take rfl (congrArg PV.bool c7) ?_
            refine vops_rd (rd_loadN (ds := [.int .i64 x1.Low, .int .i64 x1.High]) rfl (getO_N rfl rfl) rfl ta_24 ts_24 rfl rfl rfl) rfl ?_
            refine vops_take rfl (congrArg PV.bool c7) ?_
            refine vops_rd (rd_eqlV (tab := eqTab) eqTab_ok rfl rfl eqg_24 rfl) rfl ?_
            refine vops_rd (rd_pickF (congrArg PV.bool c7) rfl) rfl ?_
            refine vops_rd (rd_mvB rfl) rfl ?_
            refine vops_skip rfl rfl (neT c8) rfl ?_
            refine vops_skip rfl rfl (neT c8) rfl ?_
            refine vops_skip rfl rfl (neT c8) rfl ?_
            refine vops_skip rfl rfl (neT c8) rfl ?_
            refine vops_rd (rd_pickT (congrArg PV.bool c8) rfl) rfl ?_
            refine vops_rd (rd_mvB rfl) rfl ?_
            refine vops_skip rfl rfl (by decide) rfl ?_
            refine vops_skip rfl rfl (by decide) rfl ?_
            refine vops_skip rfl rfl (by decide) rfl ?_
            refine vops_skip rfl rfl (by decide) rfl ?_
            refine vops_skip rfl rfl (by decide) rfl ?_
            refine vops_skip rfl rfl (by decide) rfl ?_
            refine vops_skip rfl rfl (by decide) rfl ?_
            refine vops_rd (rd_pickT rfl rfl) rfl ?_
            refine vops_nil ?_
            obtain rfl := Option.some.inj hF
            refine onlyE ?_
            exact weak_sub ⟨rfl, rfl, rfl, rfl, rfl, rfl, trivial⟩
          · have hF := bifF c8 hF
            rcases Bool.eq_false_or_eq_true (decide (p2 < p1.Time)) with c9 | c9
            · have hF := bifT c9 hF
              refine vops_rd (rd_loadN (ds := [.int .i64 p0.Address, .int .i64 p0.Kind, .int .i64 p0.Target, .int .i64 p0.Offset, .int .i64 p0.Scale, .int .i64 p0.Error, .int .i64 p0.Drift, .int .i64 p0.Life]) rfl (getO_N rfl rfl) rfl ta_35 ts_35 rfl rfl rfl) rfl ?_
              refine vops_efE (vef_callP rfl Try.call31 (F_sensor_Check_ok h5 _)) rfl ?_
              refine vops_rd (rd_neq rfl rfl) rfl ?_
              refine vops_rd (rd_mvB rfl) rfl ?_
              refine vops_take rfl (congrArg PV.bool c6) ?_
              refine vops_rd (rd_fieldAddr rfl tf_26_0 ts_3 (by decide)) rfl ?_
              refine vops_take rfl (congrArg PV.bool c6) ?_
              refine vops_rd (rd_load1 rfl (getO_N rfl rfl) rfl ta_3 rfl) rfl ?_
              refine vops_take rfl (congrArg PV.bool c6) ?_
              refine vops_rd (rd_lss rfl rfl) rfl ?_
              refine vops_rd (rd_pickF (congrArg PV.bool c6) rfl) rfl ?_
              refine vops_rd (rd_mvB rfl) rfl ?_
              refine vops_take rfl (congrArg PV.bool c7) ?_
              refine vops_rd (rd_fieldAddr rfl tf_26_2 ts_24 (by decide)) rfl ?_
              refine vops_take rfl (congrArg PV.bool c7) ?_
              refine vops_rd (rd_loadN (ds := [.int .i64 p1.Span.Low, .int .i64 p1.Span.High]) rfl (getO_N rfl rfl) rfl ta_24 ts_24 rfl rfl rfl) rfl ?_
              refine vops_take rfl (congrArg PV.bool c7) ?_
              refine vops_rd (rd_loadN (ds := [.int .i64 x1.Low, .int .i64 x1.High]) rfl (getO_N rfl rfl) rfl ta_24 ts_24 rfl rfl rfl) rfl ?_
              refine vops_take rfl (congrArg PV.bool c7) ?_
              refine vops_rd (rd_eqlV (tab := eqTab) eqTab_ok rfl rfl eqg_24 rfl) rfl ?_
              refine vops_rd (rd_pickF (congrArg PV.bool c7) rfl) rfl ?_
              refine vops_rd (rd_mvB rfl) rfl ?_
              refine vops_take rfl (congrArg PV.bool c8) ?_
              refine vops_rd (rd_mvI rfl) rfl ?_
              refine vops_take rfl (congrArg PV.bool c8) ?_
              refine vops_rd (rd_fieldAddr rfl tf_26_1 ts_3 (by decide)) rfl ?_
              refine vops_take rfl (congrArg PV.bool c8) ?_
              refine vops_rd (rd_load1 rfl (getO_N rfl rfl) rfl ta_3 rfl) rfl ?_
              refine vops_take rfl (congrArg PV.bool c8) ?_
              refine vops_rd (rd_lss rfl rfl) rfl ?_
              refine vops_rd (rd_pickF (congrArg PV.bool c8) rfl) rfl ?_
              refine vops_rd (rd_mvB rfl) rfl ?_
              refine vops_skip rfl rfl (neT c9) rfl ?_
              refine vops_skip rfl rfl (neT c9) rfl ?_
              refine vops_skip rfl rfl (neT c9) rfl ?_
              refine vops_skip rfl rfl (neT c9) rfl ?_
              refine vops_skip rfl rfl (neT c9) rfl ?_
              refine vops_skip rfl rfl (neT c9) rfl ?_
              refine vops_skip rfl rfl (neT c9) rfl ?_
              refine vops_rd (rd_pickT (congrArg PV.bool c9) rfl) rfl ?_
              refine vops_nil ?_
              obtain rfl := Option.some.inj hF
              refine onlyE ?_
              exact weak_sub ⟨rfl, rfl, rfl, rfl, rfl, rfl, trivial⟩
            · have hF := bifF c9 hF
              refine vops_rd (rd_loadN (ds := [.int .i64 p0.Address, .int .i64 p0.Kind, .int .i64 p0.Target, .int .i64 p0.Offset, .int .i64 p0.Scale, .int .i64 p0.Error, .int .i64 p0.Drift, .int .i64 p0.Life]) rfl (getO_N rfl rfl) rfl ta_35 ts_35 rfl rfl rfl) rfl ?_
              refine vops_efE (vef_callP rfl Try.call31 (F_sensor_Check_ok h5 _)) rfl ?_
              refine vops_rd (rd_neq rfl rfl) rfl ?_
              refine vops_rd (rd_mvB rfl) rfl ?_
              refine vops_take rfl (congrArg PV.bool c6) ?_
              refine vops_rd (rd_fieldAddr rfl tf_26_0 ts_3 (by decide)) rfl ?_
              refine vops_take rfl (congrArg PV.bool c6) ?_
              refine vops_rd (rd_load1 rfl (getO_N rfl rfl) rfl ta_3 rfl) rfl ?_
              refine vops_take rfl (congrArg PV.bool c6) ?_
              refine vops_rd (rd_lss rfl rfl) rfl ?_
              refine vops_rd (rd_pickF (congrArg PV.bool c6) rfl) rfl ?_
              refine vops_rd (rd_mvB rfl) rfl ?_
              refine vops_take rfl (congrArg PV.bool c7) ?_
              refine vops_rd (rd_fieldAddr rfl tf_26_2 ts_24 (by decide)) rfl ?_
              refine vops_take rfl (congrArg PV.bool c7) ?_
              refine vops_rd (rd_loadN (ds := [.int .i64 p1.Span.Low, .int .i64 p1.Span.High]) rfl (getO_N rfl rfl) rfl ta_24 ts_24 rfl rfl rfl) rfl ?_
              refine vops_take rfl (congrArg PV.bool c7) ?_
              refine vops_rd (rd_loadN (ds := [.int .i64 x1.Low, .int .i64 x1.High]) rfl (getO_N rfl rfl) rfl ta_24 ts_24 rfl rfl rfl) rfl ?_
              refine vops_take rfl (congrArg PV.bool c7) ?_
              refine vops_rd (rd_eqlV (tab := eqTab) eqTab_ok rfl rfl eqg_24 rfl) rfl ?_
              refine vops_rd (rd_pickF (congrArg PV.bool c7) rfl) rfl ?_
              refine vops_rd (rd_mvB rfl) rfl ?_
              refine vops_take rfl (congrArg PV.bool c8) ?_
              refine vops_rd (rd_mvI rfl) rfl ?_
              refine vops_take rfl (congrArg PV.bool c8) ?_
              refine vops_rd (rd_fieldAddr rfl tf_26_1 ts_3 (by decide)) rfl ?_
              refine vops_take rfl (congrArg PV.bool c8) ?_
              refine vops_rd (rd_load1 rfl (getO_N rfl rfl) rfl ta_3 rfl) rfl ?_
              refine vops_take rfl (congrArg PV.bool c8) ?_
              refine vops_rd (rd_lss rfl rfl) rfl ?_
              refine vops_rd (rd_pickF (congrArg PV.bool c8) rfl) rfl ?_
              refine vops_rd (rd_mvB rfl) rfl ?_
              refine vops_take rfl (congrArg PV.bool c9) ?_
              refine vops_rd (rd_mvI rfl) rfl ?_
              refine vops_take rfl (congrArg PV.bool c9) ?_
              refine vops_rd (rd_fieldAddr rfl tf_26_1 ts_3 (by decide)) rfl ?_
              refine vops_take rfl (congrArg PV.bool c9) ?_
              refine vops_rd (rd_load1 rfl (getO_N rfl rfl) rfl ta_3 rfl) rfl ?_
              refine vops_take rfl (congrArg PV.bool c9) ?_
              refine vops_rd (rd_sub rfl rfl rfl) rfl ?_
              refine vops_take rfl (congrArg PV.bool c9) ?_
              refine vops_rd (rd_fieldAddr rfl tf_35_7 ts_3 (by decide)) rfl ?_
              refine vops_take rfl (congrArg PV.bool c9) ?_
              refine vops_rd (rd_load1 rfl (getO_N rfl rfl) rfl ta_3 rfl) rfl ?_
              refine vops_take rfl (congrArg PV.bool c9) ?_
              refine vops_rd (rd_gtr rfl rfl) rfl ?_
              refine vops_rd (rd_pickF (congrArg PV.bool c9) rfl) rfl ?_
              refine vops_nil ?_
              obtain rfl := Option.some.inj hF
              refine onlyE ?_
              exact weak_sub ⟨rfl, rfl, rfl, rfl, rfl, rfl, trivial⟩
    · rintro _ _ _ _ ⟨rfl, hw⟩
      refine ⟨_, _, _, hw, ?_⟩
      refine vwp_cond rfl (fun c10 => ?_) (fun c10 => ?_)
      · have hF := bifT c10 hF
        refine vwp_seq ?_
        refine vwp_region ?_
        refine vops_rd (rd_loadN (ds := [.int .i64 x1.Low, .int .i64 x1.High]) rfl (getO_N rfl rfl) rfl ta_24 ts_24 rfl rfl rfl) rfl ?_
        refine vops_efE (vef_store (p := .agg [.int .i64 x1.Low, .int .i64 x1.High]) (e' := .agg [.int .i64 x1.Low, .int .i64 x1.High]) rfl (getO_N rfl rfl) rfl rfl ts_24 rfl (nt_ne rfl) rfl (Nat.le_of_ble_eq_true rfl) rfl (setO_N rfl rfl)) rfl ?_
        refine vops_nil ?_
        refine vwp_ret ?_
        obtain rfl := Option.some.inj hF
        refine fnR ?_
        exact weak_pick rfl [(2, 0)] (by decide) ⟨rn_ptr 0 2 rfl rfl, trivial⟩ ⟨⟨_, rfl, rfl, .same _ _ _ _ (ltObj_es ⟨(lt_agg ⟨.int _ _, .int _ _, trivial⟩), trivial⟩)⟩, trivial⟩
      · have hF := bifF c10 hF
        refine vwp_skip ?_
        refine vwp_seq ?_
        refine vwp_seq ?_
        refine vwp_region ?_
        obtain ⟨x11, h12, hF⟩ := bnd hF
        refine vops_rd (rd_fieldAddr rfl tf_35_1 ts_3 (by decide)) rfl ?_
        refine vops_rd (rd_load1 rfl (getO_N rfl rfl) rfl ta_3 rfl) rfl ?_
        refine vops_efE (vef_callP rfl Try.call32 (F_window_plain_ok h12 _)) rfl ?_
        refine vops_nil ?_
        refine vwp_cond rfl (fun c13 => ?_) (fun c13 => ?_)
        · have hF := bifT c13 hF
          refine vwp_seq ?_
          refine vwp_region ?_
          refine vops_rd (rd_fieldAddr rfl tf_26_2 ts_24 (by decide)) rfl ?_
          refine vops_rd (rd_loadN (ds := [.int .i64 p1.Span.Low, .int .i64 p1.Span.High]) rfl (getO_N rfl rfl) rfl ta_24 ts_24 rfl rfl rfl) rfl ?_
          refine vops_efE (vef_store (p := .agg [.int .i64 p1.Span.Low, .int .i64 p1.Span.High]) (e' := .agg [.int .i64 p1.Span.Low, .int .i64 p1.Span.High]) rfl (getO_N rfl rfl) rfl rfl ts_24 rfl (nt_ne rfl) rfl (Nat.le_of_ble_eq_true rfl) rfl (setO_N rfl rfl)) rfl ?_
          refine vops_nil ?_
          refine vwp_ret ?_
          obtain rfl := Option.some.inj hF
          refine fnR ?_
          exact weak_pick rfl [(2, 0)] (by decide) ⟨rn_ptr 0 2 rfl rfl, trivial⟩ ⟨⟨_, rfl, rfl, .same _ _ _ _ (ltObj_es ⟨(lt_agg ⟨.int _ _, .int _ _, trivial⟩), trivial⟩)⟩, trivial⟩
        · have hF := bifF c13 hF
          refine vwp_skip ?_
          refine vwp_seq ?_
          refine vwp_region ?_
          refine vops_rd (rd_fieldAddr rfl tf_35_6 ts_3 (by decide)) rfl ?_
          refine vops_rd (rd_load1 rfl (getO_N rfl rfl) rfl ta_3 rfl) rfl ?_
          refine vops_rd (rd_mvI rfl) rfl ?_
          refine vops_rd (rd_fieldAddr rfl tf_26_1 ts_3 (by decide)) rfl ?_
          refine vops_rd (rd_load1 rfl (getO_N rfl rfl) rfl ta_3 rfl) rfl ?_
          refine vops_rd (rd_sub rfl rfl rfl) rfl ?_
          refine vops_rd (rd_mul rfl rfl rfl) rfl ?_
          refine vops_rd (rd_add rfl rfl rfl) rfl ?_
          refine vops_rd (rd_quo rfl rfl (by decide) rfl) rfl ?_
          refine vops_rd (rd_asI rfl) rfl ?_
          refine vops_nil ?_
          refine vwp_seq ?_
          refine vwp_region ?_
          refine vops_rd (rd_fieldAddr rfl tf_26_2 ts_24 (by decide)) rfl ?_
          refine vops_rd (rd_fieldAddr rfl tf_24_0 ts_3 (by decide)) rfl ?_
          refine vops_rd (rd_load1 rfl (getO_N rfl rfl) rfl ta_3 rfl) rfl ?_
          refine vops_rd (rd_mvI rfl) rfl ?_
          refine vops_rd (rd_sub rfl rfl rfl) rfl ?_
          refine vops_rd (rd_fieldAddr rfl tf_26_2 ts_24 (by decide)) rfl ?_
          refine vops_rd (rd_fieldAddr rfl tf_24_1 ts_3 (by decide)) rfl ?_
          refine vops_rd (rd_load1 rfl (getO_N rfl rfl) rfl ta_3 rfl) rfl ?_
          refine vops_rd (rd_mvI rfl) rfl ?_
          refine vops_rd (rd_add rfl rfl rfl) rfl ?_
          refine vops_rd (rd_build (vs := [(0, .int .i64 (IntKind.i64.wrap (p1.Span.Low - (IntKind.i64.wrap (Int.tdiv (IntKind.i64.wrap ((IntKind.i64.wrap (p0.Drift * (IntKind.i64.wrap (p2 - p1.Time)))) + 999)) 1000))))), (1, .int .i64 (IntKind.i64.wrap (p1.Span.High + (IntKind.i64.wrap (Int.tdiv (IntKind.i64.wrap ((IntKind.i64.wrap (p0.Drift * (IntKind.i64.wrap (p2 - p1.Time)))) + 999)) 1000)))))]) (ds := [.int .i64 (IntKind.i64.wrap (p1.Span.Low - (IntKind.i64.wrap (Int.tdiv (IntKind.i64.wrap ((IntKind.i64.wrap (p0.Drift * (IntKind.i64.wrap (p2 - p1.Time)))) + 999)) 1000)))), .int .i64 (IntKind.i64.wrap (p1.Span.High + (IntKind.i64.wrap (Int.tdiv (IntKind.i64.wrap ((IntKind.i64.wrap (p0.Drift * (IntKind.i64.wrap (p2 - p1.Time)))) + 999)) 1000))))]) tz_24 rfl rfl tp_24 ⟨rfl, rfl, rfl, rfl, trivial⟩ (nt_all2 rfl) rfl) rfl ?_
          refine vops_efE (vef_allocN rfl rfl tz_24 rfl rfl (Nat.succ_pos _) rfl) rfl ?_
          refine vops_efE (vef_store (p := .agg [.int .i64 (IntKind.i64.wrap (p1.Span.Low - (IntKind.i64.wrap (Int.tdiv (IntKind.i64.wrap ((IntKind.i64.wrap (p0.Drift * (IntKind.i64.wrap (p2 - p1.Time)))) + 999)) 1000)))), .int .i64 (IntKind.i64.wrap (p1.Span.High + (IntKind.i64.wrap (Int.tdiv (IntKind.i64.wrap ((IntKind.i64.wrap (p0.Drift * (IntKind.i64.wrap (p2 - p1.Time)))) + 999)) 1000))))]) (e' := .agg [.int .i64 (IntKind.i64.wrap (p1.Span.Low - (IntKind.i64.wrap (Int.tdiv (IntKind.i64.wrap ((IntKind.i64.wrap (p0.Drift * (IntKind.i64.wrap (p2 - p1.Time)))) + 999)) 1000)))), .int .i64 (IntKind.i64.wrap (p1.Span.High + (IntKind.i64.wrap (Int.tdiv (IntKind.i64.wrap ((IntKind.i64.wrap (p0.Drift * (IntKind.i64.wrap (p2 - p1.Time)))) + 999)) 1000))))]) rfl (getO_N rfl rfl) rfl rfl ts_24 rfl (nt_ne rfl) rfl (Nat.le_of_ble_eq_true rfl) rfl (setO_N rfl rfl)) rfl ?_
          refine vops_nil ?_
          refine vwp_seq ?_
          refine vwp_seq ?_
          obtain ⟨o14, ho14, hF⟩ := bnd hF
          refine vwp_monoW (Q' := (fun o14 => OnlyE .normal (fun E' lw lc => Weak E' lw lc [(6, .ptr (low.length + 0) 0 0 0), (9, .ptr (low.length + 1) 0 0 0), (73, .bool o14)] low [⟨24, 2, [.agg [.int .i64 0, .int .i64 0]], 0⟩, ⟨24, 2, [.agg [.int .i64 (IntKind.i64.wrap (p1.Span.Low - (IntKind.i64.wrap (Int.tdiv (IntKind.i64.wrap ((IntKind.i64.wrap (p0.Drift * (IntKind.i64.wrap (p2 - p1.Time)))) + 999)) 1000)))), .int .i64 (IntKind.i64.wrap (p1.Span.High + (IntKind.i64.wrap (Int.tdiv (IntKind.i64.wrap ((IntKind.i64.wrap (p0.Drift * (IntKind.i64.wrap (p2 - p1.Time)))) + 999)) 1000))))]], 0⟩])) o14) ?_ ?_
          · replace hF := ho14
            refine vwp_region ?_
            rcases Bool.eq_false_or_eq_true (decide (p0.Kind = 1)) with c15 | c15
            · have hF := bifT c15 hF
              refine vops_rd (rd_fieldAddr rfl tf_35_1 ts_3 (by decide)) rfl ?_
              refine vops_rd (rd_load1 rfl (getO_N rfl rfl) rfl ta_3 rfl) rfl ?_
              refine vops_rd (rd_eql rfl rfl) rfl ?_
              refine vops_rd (rd_mvB rfl) rfl ?_
              refine vops_skip rfl rfl (neT c15) rfl ?_
              refine vops_skip rfl rfl (neT c15) rfl ?_
              refine vops_skip rfl rfl (neT c15) rfl ?_
              refine vops_rd (rd_pickT (congrArg PV.bool c15) rfl) rfl ?_
              refine vops_nil ?_
              obtain rfl := Option.some.inj hF
              refine onlyE ?_
              exact weak_pick rfl [(2, 0), (4, 0)] (by decide) ⟨rn_ptr 0 2 rfl rfl, rn_ptr 1 4 rfl rfl, rn_low rfl (.bool _), trivial⟩ ⟨⟨_, rfl, rfl, .same _ _ _ _ (ltObj_es ⟨(lt_agg ⟨.int _ _, .int _ _, trivial⟩), trivial⟩)⟩, ⟨_, rfl, rfl, .same _ _ _ _ (ltObj_es ⟨(lt_agg ⟨.int _ _, .int _ _, trivial⟩), trivial⟩)⟩, trivial⟩
            · have hF := bifF c15 hF
              refine vops_rd (rd_fieldAddr rfl tf_35_1 ts_3 (by decide)) rfl ?_
              refine vops_rd (rd_load1 rfl (getO_N rfl rfl) rfl ta_3 rfl) rfl ?_
              refine vops_rd (rd_eql rfl rfl) rfl ?_
              refine vops_rd (rd_mvB rfl) rfl ?_
              refine vops_take rfl (congrArg PV.bool c15) ?_
              refine vops_rd (rd_fieldAddr rfl tf_35_1 ts_3 (by decide)) rfl ?_
              refine vops_take rfl (congrArg PV.bool c15) ?_
              refine vops_rd (rd_load1 rfl (getO_N rfl rfl) rfl ta_3 rfl) rfl ?_
              refine vops_take rfl (congrArg PV.bool c15) ?_
              refine vops_rd (rd_eql rfl rfl) rfl ?_
              refine vops_rd (rd_pickF (congrArg PV.bool c15) rfl) rfl ?_
              refine vops_nil ?_
              obtain rfl := Option.some.inj hF
              refine onlyE ?_
              exact weak_pick rfl [(2, 0), (4, 0)] (by decide) ⟨rn_ptr 0 2 rfl rfl, rn_ptr 1 4 rfl rfl, rn_low rfl (.bool _), trivial⟩ ⟨⟨_, rfl, rfl, .same _ _ _ _ (ltObj_es ⟨(lt_agg ⟨.int _ _, .int _ _, trivial⟩), trivial⟩)⟩, ⟨_, rfl, rfl, .same _ _ _ _ (ltObj_es ⟨(lt_agg ⟨.int _ _, .int _ _, trivial⟩), trivial⟩)⟩, trivial⟩
          · rintro _ _ _ _ ⟨rfl, hw⟩
            refine ⟨_, _, _, hw, ?_⟩
            obtain ⟨o16, ho16, hF⟩ := bnd hF
            refine vwp_monoW (Q' := (fun o16 => OnlyE .normal (fun E' lw lc => Weak E' lw lc [(6, .ptr (low.length + 0) 0 0 0), (9, .ptr (low.length + 1) 0 0 0)] low [⟨24, 2, [.agg [.int .i64 0, .int .i64 0]], 0⟩, ⟨24, 2, [.agg [.int .i64 o16.Low, .int .i64 o16.High]], 0⟩])) o16) ?_ ?_
            · replace hF := ho16
              refine vwp_cond rfl (fun c17 => ?_) (fun c17 => ?_)
              · have hF := bifT c17 hF
                refine vwp_region ?_
                refine vops_rd (rd_fieldAddr rfl tf_24_0 ts_3 (by decide)) rfl ?_
                refine vops_rd (rd_load1 rfl (getO_N rfl rfl) rfl ta_3 rfl) rfl ?_
                refine vops_rd (rd_max rfl rfl) rfl ?_
                refine vops_rd (rd_fieldAddr rfl tf_24_1 ts_3 (by decide)) rfl ?_
                refine vops_rd (rd_load1 rfl (getO_N rfl rfl) rfl ta_3 rfl) rfl ?_
                refine vops_rd (rd_max rfl rfl) rfl ?_
                refine vops_rd (rd_fieldAddr rfl tf_24_0 ts_3 (by decide)) rfl ?_
                refine vops_efE (vef_store (p := .int .i64 (max (IntKind.i64.wrap (p1.Span.Low - (IntKind.i64.wrap (Int.tdiv (IntKind.i64.wrap ((IntKind.i64.wrap (p0.Drift * (IntKind.i64.wrap (p2 - p1.Time)))) + 999)) 1000)))) 0)) (e' := .agg [.int .i64 (max (IntKind.i64.wrap (p1.Span.Low - (IntKind.i64.wrap (Int.tdiv (IntKind.i64.wrap ((IntKind.i64.wrap (p0.Drift * (IntKind.i64.wrap (p2 - p1.Time)))) + 999)) 1000)))) 0), .int .i64 (IntKind.i64.wrap (p1.Span.High + (IntKind.i64.wrap (Int.tdiv (IntKind.i64.wrap ((IntKind.i64.wrap (p0.Drift * (IntKind.i64.wrap (p2 - p1.Time)))) + 999)) 1000))))]) rfl (getO_N rfl rfl) rfl rfl ts_3 rfl (nt_ne rfl) rfl (Nat.le_of_ble_eq_true rfl) rfl (setO_N rfl rfl)) rfl ?_
                refine vops_rd (rd_fieldAddr rfl tf_24_1 ts_3 (by decide)) rfl ?_
                refine vops_efE (vef_store (p := .int .i64 (max (IntKind.i64.wrap (p1.Span.High + (IntKind.i64.wrap (Int.tdiv (IntKind.i64.wrap ((IntKind.i64.wrap (p0.Drift * (IntKind.i64.wrap (p2 - p1.Time)))) + 999)) 1000)))) 0)) (e' := .agg [.int .i64 (max (IntKind.i64.wrap (p1.Span.Low - (IntKind.i64.wrap (Int.tdiv (IntKind.i64.wrap ((IntKind.i64.wrap (p0.Drift * (IntKind.i64.wrap (p2 - p1.Time)))) + 999)) 1000)))) 0), .int .i64 (max (IntKind.i64.wrap (p1.Span.High + (IntKind.i64.wrap (Int.tdiv (IntKind.i64.wrap ((IntKind.i64.wrap (p0.Drift * (IntKind.i64.wrap (p2 - p1.Time)))) + 999)) 1000)))) 0)]) rfl (getO_N rfl rfl) rfl rfl ts_3 rfl (nt_ne rfl) rfl (Nat.le_of_ble_eq_true rfl) rfl (setO_N rfl rfl)) rfl ?_
                refine vops_nil ?_
                obtain rfl := Option.some.inj hF
                refine onlyE ?_
                exact weak_sub ⟨rfl, rfl, trivial⟩
              · have hF := bifF c17 hF
                refine vwp_skip ?_
                obtain rfl := Option.some.inj hF
                refine onlyE ?_
                exact weak_sub ⟨rfl, rfl, trivial⟩
            · rintro _ _ _ _ ⟨rfl, hw⟩
              refine ⟨_, _, _, hw, ?_⟩
              refine vwp_seq ?_
              refine vwp_region ?_
              refine vops_rd (rd_loadN (ds := [.int .i64 o16.Low, .int .i64 o16.High]) rfl (getO_N rfl rfl) rfl ta_24 ts_24 rfl rfl rfl) rfl ?_
              refine vops_efE (vef_store (p := .agg [.int .i64 o16.Low, .int .i64 o16.High]) (e' := .agg [.int .i64 o16.Low, .int .i64 o16.High]) rfl (getO_N rfl rfl) rfl rfl ts_24 rfl (nt_ne rfl) rfl (Nat.le_of_ble_eq_true rfl) rfl (setO_N rfl rfl)) rfl ?_
              refine vops_nil ?_
              refine vwp_ret ?_
              obtain rfl := Option.some.inj hF
              refine fnR ?_
              exact weak_pick rfl [(0, 0)] (by decide) ⟨rn_ptr 0 0 rfl rfl, trivial⟩ ⟨⟨_, rfl, rfl, .same _ _ _ _ (ltObj_es ⟨(lt_agg ⟨.int _ _, .int _ _, trivial⟩), trivial⟩)⟩, trivial⟩
  · rintro _ _ _ _ ⟨he, hw⟩
    refine ⟨_, _, _, hw, ?_⟩
    exact bodyQ_pure he [.agg [.int .i64 r.Low, .int .i64 r.High]] ⟨rd_loadN rfl (getO_N rfl rfl) rfl ta_24 ts_24 rfl rfl rfl, trivial⟩ ((lt_agg ⟨.int _ _, .int _ _, trivial⟩)) ⟨rfl, rfl⟩

theorem F_window_Until_ok {p0 : T_Sensor} {p1 : T_Measure} {p2 : Int} {r : Int} (hF : F_window_Until p0 p1 p2 = some r) (low : List AObj) :
    VCalls Try.prog 17 [.agg [.int .i64 p0.Address, .int .i64 p0.Kind, .int .i64 p0.Target, .int .i64 p0.Offset, .int .i64 p0.Scale, .int .i64 p0.Error, .int .i64 p0.Drift, .int .i64 p0.Life], .agg [.int .i64 p1.Sensor, .int .i64 p1.Time, .int .i64 p1.Span.Low, .int .i64 p1.Span.High], .int .i64 p2] low fun x low' => x = .int .i64 r ∧ low' = low := by
  refine vcalls_of_body (nt := 46) (rs := [.tmp 6]) Try.func17 rfl rfl (Nat.le_of_ble_eq_true rfl) rfl ?_
  refine vwp_monoW (Q' := FnE (fun E' lw lc => Weak E' lw lc [(6, .int .i64 r)] low [])) ?_ ?_
  · unfold F_window_Until at hF
    refine vwp_seq ?_
    refine vwp_region ?_
    refine vops_efE (vef_boxN rfl rfl (v := .agg [.int .i64 p0.Address, .int .i64 p0.Kind, .int .i64 p0.Target, .int .i64 p0.Offset, .int .i64 p0.Scale, .int .i64 p0.Error, .int .i64 p0.Drift, .int .i64 p0.Life]) rfl rfl (Nat.succ_pos _) rfl rfl) rfl ?_
    refine vops_efE (vef_boxN rfl rfl (v := .agg [.int .i64 p1.Sensor, .int .i64 p1.Time, .int .i64 p1.Span.Low, .int .i64 p1.Span.High]) rfl rfl (Nat.succ_pos _) rfl rfl) rfl ?_
    refine vops_rd (rd_asI rfl) rfl ?_
    refine vops_nil ?_
    refine vwp_seq ?_
    refine vwp_seq ?_
    refine vwp_region ?_
    obtain ⟨x1, h2, hF⟩ := bnd hF
    obtain ⟨x3, h4, hF⟩ := bnd hF
    refine vops_rd (rd_loadN (ds := [.int .i64 p0.Address, .int .i64 p0.Kind, .int .i64 p0.Target, .int .i64 p0.Offset, .int .i64 p0.Scale, .int .i64 p0.Error, .int .i64 p0.Drift, .int .i64 p0.Life]) rfl (getO_N rfl rfl) rfl ta_35 ts_35 rfl rfl rfl) rfl ?_
    refine vops_rd (rd_loadN (ds := [.int .i64 p1.Sensor, .int .i64 p1.Time, .int .i64 p1.Span.Low, .int .i64 p1.Span.High]) rfl (getO_N rfl rfl) rfl ta_26 ts_26 rfl rfl rfl) rfl ?_
    refine vops_rd (rd_fieldAddr rfl tf_26_1 ts_3 (by decide)) rfl ?_
    refine vops_rd (rd_load1 rfl (getO_N rfl rfl) rfl ta_3 rfl) rfl ?_
    refine vops_efE (vef_callP rfl Try.call19 (F_window_At_ok h2 _)) rfl ?_
    refine vops_rd (rd_mvI rfl) rfl ?_
    refine vops_efE (vef_callP rfl Try.call11 (F_window_Above_ok h4 _)) rfl ?_
    refine vops_rd (rd_neq rfl rfl) rfl ?_
    refine vops_nil ?_
    refine vwp_cond rfl (fun c5 => ?_) (fun c5 => ?_)
    · have hF := bifT c5 hF
      refine vwp_seq ?_
      refine vwp_region ?_
      refine vops_rd (rd_asI rfl) rfl ?_
      refine vops_nil ?_
      refine vwp_ret ?_
      obtain rfl := Option.some.inj hF
      refine fnR ?_
      exact weak_pick rfl [] (by decide) ⟨rn_low rfl (.int _ _), trivial⟩ trivial
    · have hF := bifF c5 hF
      refine vwp_skip ?_
      refine vwp_seq ?_
      refine vwp_drawn [[], [0], [], [2], [], [4], [2, 3, 4, 5], [0, 1], [0, 1, 2, 3, 4, 5, 6, 7]] [false, false, false, false, false, false, false, false, false] [(low, [⟨35, 8, [.agg [.int .i64 p0.Address, .int .i64 p0.Kind, .int .i64 p0.Target, .int .i64 p0.Offset, .int .i64 p0.Scale, .int .i64 p0.Error, .int .i64 p0.Drift, .int .i64 p0.Life]], 0⟩, ⟨26, 4, [.agg [.int .i64 p1.Sensor, .int .i64 p1.Time, .int .i64 p1.Span.Low, .int .i64 p1.Span.High]], 0⟩])] mixed (by kernel_rfl) rfl (lenAll (all1 rfl all0)) rfl (low, [⟨35, 8, [.agg [.int .i64 p0.Address, .int .i64 p0.Kind, .int .i64 p0.Target, .int .i64 p0.Offset, .int .i64 p0.Scale, .int .i64 p0.Error, .int .i64 p0.Drift, .int .i64 p0.Life]], 0⟩, ⟨26, 4, [.agg [.int .i64 p1.Sensor, .int .i64 p1.Time, .int .i64 p1.Span.Low, .int .i64 p1.Span.High]], 0⟩]) rfl rfl ?_
      refine dops_rdW [(low, [⟨35, 8, [.agg [.int .i64 p0.Address, .int .i64 p0.Kind, .int .i64 p0.Target, .int .i64 p0.Offset, .int .i64 p0.Scale, .int .i64 p0.Error, .int .i64 p0.Drift, .int .i64 p0.Life]], 0⟩, ⟨26, 4, [.agg [.int .i64 p1.Sensor, .int .i64 p1.Time, .int .i64 p1.Span.Low, .int .i64 p1.Span.High]], 0⟩])] rfl rfl (all1 (VRd.ntl (rd_fieldAddr rfl tf_26_1 ts_3 (by decide))) all0) ?_
      refine dops_rdW [(low, [⟨35, 8, [.agg [.int .i64 p0.Address, .int .i64 p0.Kind, .int .i64 p0.Target, .int .i64 p0.Offset, .int .i64 p0.Scale, .int .i64 p0.Error, .int .i64 p0.Drift, .int .i64 p0.Life]], 0⟩, ⟨26, 4, [.agg [.int .i64 p1.Sensor, .int .i64 p1.Time, .int .i64 p1.Span.Low, .int .i64 p1.Span.High]], 0⟩])] rfl rfl (all1 (VRd.ntl (rd_load1 rfl (getO_N rfl rfl) rfl ta_3 rfl)) all0) ?_
      refine dops_rdW [(low, [⟨35, 8, [.agg [.int .i64 p0.Address, .int .i64 p0.Kind, .int .i64 p0.Target, .int .i64 p0.Offset, .int .i64 p0.Scale, .int .i64 p0.Error, .int .i64 p0.Drift, .int .i64 p0.Life]], 0⟩, ⟨26, 4, [.agg [.int .i64 p1.Sensor, .int .i64 p1.Time, .int .i64 p1.Span.Low, .int .i64 p1.Span.High]], 0⟩])] rfl rfl (all1 (VRd.ntl (rd_fieldAddr rfl tf_26_1 ts_3 (by decide))) all0) ?_
      refine dops_rdW [(low, [⟨35, 8, [.agg [.int .i64 p0.Address, .int .i64 p0.Kind, .int .i64 p0.Target, .int .i64 p0.Offset, .int .i64 p0.Scale, .int .i64 p0.Error, .int .i64 p0.Drift, .int .i64 p0.Life]], 0⟩, ⟨26, 4, [.agg [.int .i64 p1.Sensor, .int .i64 p1.Time, .int .i64 p1.Span.Low, .int .i64 p1.Span.High]], 0⟩])] rfl rfl (all1 (VRd.ntl (rd_load1 rfl (getO_N rfl rfl) rfl ta_3 rfl)) all0) ?_
      refine dops_rdW [(low, [⟨35, 8, [.agg [.int .i64 p0.Address, .int .i64 p0.Kind, .int .i64 p0.Target, .int .i64 p0.Offset, .int .i64 p0.Scale, .int .i64 p0.Error, .int .i64 p0.Drift, .int .i64 p0.Life]], 0⟩, ⟨26, 4, [.agg [.int .i64 p1.Sensor, .int .i64 p1.Time, .int .i64 p1.Span.Low, .int .i64 p1.Span.High]], 0⟩])] rfl rfl (all1 (VRd.ntl (rd_fieldAddr rfl tf_35_7 ts_3 (by decide))) all0) ?_
      refine dops_rdW [(low, [⟨35, 8, [.agg [.int .i64 p0.Address, .int .i64 p0.Kind, .int .i64 p0.Target, .int .i64 p0.Offset, .int .i64 p0.Scale, .int .i64 p0.Error, .int .i64 p0.Drift, .int .i64 p0.Life]], 0⟩, ⟨26, 4, [.agg [.int .i64 p1.Sensor, .int .i64 p1.Time, .int .i64 p1.Span.Low, .int .i64 p1.Span.High]], 0⟩])] rfl rfl (all1 (VRd.ntl (rd_load1 rfl (getO_N rfl rfl) rfl ta_3 rfl)) all0) ?_
      refine dops_rdW [(low, [⟨35, 8, [.agg [.int .i64 p0.Address, .int .i64 p0.Kind, .int .i64 p0.Target, .int .i64 p0.Offset, .int .i64 p0.Scale, .int .i64 p0.Error, .int .i64 p0.Drift, .int .i64 p0.Life]], 0⟩, ⟨26, 4, [.agg [.int .i64 p1.Sensor, .int .i64 p1.Time, .int .i64 p1.Span.Low, .int .i64 p1.Span.High]], 0⟩])] rfl rfl (all1 (VRd.ntl (rd_add rfl rfl rfl)) all0) ?_
      refine dops_rdW [(low, [⟨35, 8, [.agg [.int .i64 p0.Address, .int .i64 p0.Kind, .int .i64 p0.Target, .int .i64 p0.Offset, .int .i64 p0.Scale, .int .i64 p0.Error, .int .i64 p0.Drift, .int .i64 p0.Life]], 0⟩, ⟨26, 4, [.agg [.int .i64 p1.Sensor, .int .i64 p1.Time, .int .i64 p1.Span.Low, .int .i64 p1.Span.High]], 0⟩])] rfl rfl (all1 (VRd.ntl (rd_asI rfl)) all0) ?_
      refine dops_rdW [(low, [⟨35, 8, [.agg [.int .i64 p0.Address, .int .i64 p0.Kind, .int .i64 p0.Target, .int .i64 p0.Offset, .int .i64 p0.Scale, .int .i64 p0.Error, .int .i64 p0.Drift, .int .i64 p0.Life]], 0⟩, ⟨26, 4, [.agg [.int .i64 p1.Sensor, .int .i64 p1.Time, .int .i64 p1.Span.Low, .int .i64 p1.Span.High]], 0⟩])] rfl rfl (all1 (VRd.ntl (rd_asI rfl)) all0) ?_
      refine dops_nil ?_
      refine vwp_seq ?_
      refine vwp_block ?_
      obtain ⟨o7, ho7, hF⟩ := bnd hF
      refine vwp_monoW (vwp_loopC (F_window_Until_L1 p0 p1 p2) (fun s6 E' lw lc => Weak E' lw lc [(2, .int .i64 p2), (3, .ptr (low.length + 0) 0 0 0), (4, .ptr (low.length + 1) 0 0 0), (7, .int .i64 s6.1), (8, .int .i64 s6.2)] low [⟨35, 8, [.agg [.int .i64 p0.Address, .int .i64 p0.Kind, .int .i64 p0.Target, .int .i64 p0.Offset, .int .i64 p0.Scale, .int .i64 p0.Error, .int .i64 p0.Drift, .int .i64 p0.Life]], 0⟩, ⟨26, 4, [.agg [.int .i64 p1.Sensor, .int .i64 p1.Time, .int .i64 p1.Span.Low, .int .i64 p1.Span.High]], 0⟩]) (fun o7 => OnlyE (.exit 0) (fun E' lw lc => Weak E' lw lc [(7, .int .i64 o7)] low [])) ho7 ?_ (by rintro _ _ _ _ ⟨h, _⟩ <;> cases h) ?_) ?_
      · exact weak_sub ⟨rfl, rfl, rfl, rfl, rfl, trivial⟩
      · rintro s6 os6 _ _ _ hF hw
        unfold F_window_Until_L1 at hF
        refine vwp_weak hw ?_
        refine vwp_seq ?_
        refine vwp_seq ?_
        refine vwp_region ?_
        refine vops_rd (rd_mvI rfl) rfl ?_
        refine vops_rd (rd_mvI rfl) rfl ?_
        refine vops_rd (rd_lss rfl rfl) rfl ?_
        refine vops_nil ?_
        refine vwp_cond rfl (fun c8 => ?_) (fun c8 => ?_)
        · have hF := bifT c8 hF
          refine vwp_skip ?_
          refine vwp_block ?_
          refine vwp_seq ?_
          refine vwp_region ?_
          refine vops_rd (rd_mvI rfl) rfl ?_
          refine vops_rd (rd_mvI rfl) rfl ?_
          refine vops_rd (rd_mvI rfl) rfl ?_
          refine vops_rd (rd_sub rfl rfl rfl) rfl ?_
          refine vops_rd (rd_add rfl rfl rfl) rfl ?_
          refine vops_rd (rd_quo rfl rfl (by decide) rfl) rfl ?_
          refine vops_rd (rd_add rfl rfl rfl) rfl ?_
          refine vops_rd (rd_asI rfl) rfl ?_
          refine vops_nil ?_
          refine vwp_seq ?_
          refine vwp_region ?_
          obtain ⟨x9, h10, hF⟩ := bnd hF
          obtain ⟨x11, h12, hF⟩ := bnd hF
          refine vops_rd (rd_loadN (ds := [.int .i64 p0.Address, .int .i64 p0.Kind, .int .i64 p0.Target, .int .i64 p0.Offset, .int .i64 p0.Scale, .int .i64 p0.Error, .int .i64 p0.Drift, .int .i64 p0.Life]) rfl (getO_N rfl rfl) rfl ta_35 ts_35 rfl rfl rfl) rfl ?_
          refine vops_rd (rd_loadN (ds := [.int .i64 p1.Sensor, .int .i64 p1.Time, .int .i64 p1.Span.Low, .int .i64 p1.Span.High]) rfl (getO_N rfl rfl) rfl ta_26 ts_26 rfl rfl rfl) rfl ?_
          refine vops_rd (rd_mvI rfl) rfl ?_
          refine vops_efE (vef_callP rfl Try.call19 (F_window_At_ok h10 _)) rfl ?_
          refine vops_rd (rd_mvI rfl) rfl ?_
          refine vops_efE (vef_callP rfl Try.call11 (F_window_Above_ok h12 _)) rfl ?_
          refine vops_rd (rd_eql rfl rfl) rfl ?_
          refine vops_nil ?_
          refine vwp_cond rfl (fun c13 => ?_) (fun c13 => ?_)
          · have hF := bifT c13 hF
            refine vwp_region ?_
            refine vops_rd (rd_mvI rfl) rfl ?_
            refine vops_rd (rd_asI rfl) rfl ?_
            refine vops_nil ?_
            obtain rfl := Option.some.inj hF
            refine onlyE ?_
            exact weak_sub ⟨rfl, rfl, rfl, rfl, rfl, trivial⟩
          · have hF := bifF c13 hF
            refine vwp_region ?_
            refine vops_rd (rd_mvI rfl) rfl ?_
            refine vops_rd (rd_sub rfl rfl rfl) rfl ?_
            refine vops_rd (rd_asI rfl) rfl ?_
            refine vops_nil ?_
            obtain rfl := Option.some.inj hF
            refine onlyE ?_
            exact weak_sub ⟨rfl, rfl, rfl, rfl, rfl, trivial⟩
        · have hF := bifF c8 hF
          refine vwp_exit ?_
          obtain rfl := Option.some.inj hF
          refine onlyE ?_
          exact weak_pick rfl [] (by decide) ⟨rn_low rfl (.int _ _), trivial⟩ trivial
      · rintro _ _ _ _ ⟨rfl, hw⟩
        refine ⟨_, _, _, hw, ?_⟩
        refine vwp_seq ?_
        refine vwp_region ?_
        refine vops_rd (rd_mvI rfl) rfl ?_
        refine vops_rd (rd_asI rfl) rfl ?_
        refine vops_nil ?_
        refine vwp_ret ?_
        obtain rfl := Option.some.inj hF
        refine fnR ?_
        exact weak_sub ⟨rfl, trivial⟩
  · rintro _ _ _ _ ⟨he, hw⟩
    refine ⟨_, _, _, hw, ?_⟩
    exact bodyQ_pure he [.int .i64 r] ⟨rfl, trivial⟩ (.int _ _) ⟨rfl, rfl⟩

theorem F_law06_awake_ok  {r : Bool} (hF : F_law06_awake = some r) (low : List AObj) :
    VCalls Try.prog 13 [] low fun x low' => x = .bool r ∧ low' = low := by
  refine vcalls_of_body (nt := 46) (rs := [.tmp 0]) Try.func13 rfl rfl (Nat.le_of_ble_eq_true rfl) rfl ?_
  refine vwp_monoW (Q' := FnE (fun E' lw lc => Weak E' lw lc [(0, .bool r)] low [])) ?_ ?_
  · unfold F_law06_awake at hF
    refine vwp_seq ?_
    refine vwp_region ?_
    refine vops_rd (rd_asB rfl) rfl ?_
    refine vops_nil ?_
    refine vwp_seq ?_
    refine vwp_region ?_
    refine vops_rd (rd_build (vs := [(1, .int .i64 3), (6, .int .i64 100), (7, .int .i64 60)]) (ds := [.int .i64 0, .int .i64 3, .int .i64 0, .int .i64 0, .int .i64 0, .int .i64 0, .int .i64 100, .int .i64 60]) tz_35 rfl rfl tp_35 ⟨rfl, rfl, rfl, rfl, rfl, rfl, trivial⟩ (nt_all2 rfl) rfl) rfl ?_
    refine vops_efE (vef_allocN rfl rfl tz_35 rfl rfl (Nat.succ_pos _) rfl) rfl ?_
    refine vops_efE (vef_store (p := .agg [.int .i64 0, .int .i64 3, .int .i64 0, .int .i64 0, .int .i64 0, .int .i64 0, .int .i64 100, .int .i64 60]) (e' := .agg [.int .i64 0, .int .i64 3, .int .i64 0, .int .i64 0, .int .i64 0, .int .i64 0, .int .i64 100, .int .i64 60]) rfl (getO_N rfl rfl) rfl rfl ts_35 rfl (nt_ne rfl) rfl (Nat.le_of_ble_eq_true rfl) rfl (setO_N rfl rfl)) rfl ?_
    refine vops_nil ?_
    refine vwp_seq ?_
    refine vwp_region ?_
    refine vops_rd (rd_build (vs := [(0, .int .i64 40), (1, .int .i64 50)]) (ds := [.int .i64 40, .int .i64 50]) tz_24 rfl rfl tp_24 ⟨rfl, rfl, rfl, rfl, trivial⟩ (nt_all2 rfl) rfl) rfl ?_
    refine vops_rd (rd_build (vs := [(1, .int .i64 5), (2, .agg [.int .i64 40, .int .i64 50])]) (ds := [.int .i64 0, .int .i64 5, .int .i64 40, .int .i64 50]) tz_26 rfl rfl tp_26 ⟨rfl, rfl, rfl, rfl, trivial⟩ (nt_all2 rfl) rfl) rfl ?_
    refine vops_efE (vef_allocN rfl rfl tz_26 rfl rfl (Nat.succ_pos _) rfl) rfl ?_
    refine vops_efE (vef_store (p := .agg [.int .i64 0, .int .i64 5, .int .i64 40, .int .i64 50]) (e' := .agg [.int .i64 0, .int .i64 5, .int .i64 40, .int .i64 50]) rfl (getO_N rfl rfl) rfl rfl ts_26 rfl (nt_ne rfl) rfl (Nat.le_of_ble_eq_true rfl) rfl (setO_N rfl rfl)) rfl ?_
    refine vops_nil ?_
    refine vwp_seq ?_
    refine vwp_region ?_
    obtain ⟨x1, h2, hF⟩ := bnd hF
    refine vops_rd (rd_build (vs := [(0, .int .i64 1), (1, .int .i64 5)]) (ds := [.int .i64 1, .int .i64 5]) tz_24 rfl rfl tp_24 ⟨rfl, rfl, rfl, rfl, trivial⟩ (nt_all2 rfl) rfl) rfl ?_
    refine vops_rd (rd_build (vs := [(0, .int .i64 4), (1, .int .i64 9)]) (ds := [.int .i64 4, .int .i64 9]) tz_24 rfl rfl tp_24 ⟨rfl, rfl, rfl, rfl, trivial⟩ (nt_all2 rfl) rfl) rfl ?_
    refine vops_efE (vef_litF (es := List.map T_Span.enc [(T_Span.mk 1 5), (T_Span.mk 4 9)]) ⟨rfl, rfl, rfl, rfl, trivial⟩ rfl rfl (nt_all rfl) te_42 ts_24 tz_24 rfl rfl (Nat.succ_pos _) (by decide) (lt_map T_Span.enc_lt)) rfl ?_
    refine vops_efE (vef_callP rfl Try.call22 (F_window_Meet_ok h2 _)) rfl ?_
    refine vops_rd (rd_mvT rfl) rfl ?_
    refine vops_rd (rd_extract rfl rfl) rfl ?_
    refine vops_rd (rd_extract rfl rfl) rfl ?_
    refine vops_efE (vef_allocN rfl rfl tz_24 rfl rfl (Nat.succ_pos _) rfl) rfl ?_
    refine vops_efE (vef_store (p := .agg [.int .i64 x1.1.Low, .int .i64 x1.1.High]) (e' := .agg [.int .i64 x1.1.Low, .int .i64 x1.1.High]) rfl (getO_N rfl rfl) rfl rfl ts_24 rfl (nt_ne rfl) rfl (Nat.le_of_ble_eq_true rfl) rfl (setO_N rfl rfl)) rfl ?_
    refine vops_rd (rd_asB rfl) rfl ?_
    refine vops_nil ?_
    refine vwp_seq ?_
    refine vwp_region ?_
    obtain ⟨x3, h4, hF⟩ := bnd hF
    rcases Bool.eq_false_or_eq_true ((x3.Low == 39) && ((x3.High == 51) && true)) with c5 | c5
    · have hF := bifT c5 hF
      obtain ⟨x6, h7, hF⟩ := bnd hF
      obtain ⟨x8, h9, hF⟩ := bnd hF
      rcases Bool.eq_false_or_eq_true ((x6.Low == x8.Low) && ((x6.High == x8.High) && true)) with c10 | c10
      · have hF := bifT c10 hF
        rcases Bool.eq_false_or_eq_true x1.2 with c11 | c11
        · have hF := bifT c11 hF
          rcases Bool.eq_false_or_eq_true ((x1.1.Low == 4) && ((x1.1.High == 5) && true)) with c12 | c12
          · have hF := bifT c12 hF
            obtain ⟨x13, h14, hF⟩ := bnd hF
            rcases Bool.eq_false_or_eq_true (decide (x13 = (-1))) with c15 | c15
            · have hF := bifT c15 hF
              obtain ⟨x16, h17, hF⟩ := bnd hF
              refine vops_rd (rd_loadN (ds := [.int .i64 0, .int .i64 3, .int .i64 0, .int .i64 0, .int .i64 0, .int .i64 0, .int .i64 100, .int .i64 60]) rfl (getO_N rfl rfl) rfl ta_35 ts_35 rfl rfl rfl) rfl ?_
              refine vops_rd (rd_loadN (ds := [.int .i64 0, .int .i64 5, .int .i64 40, .int .i64 50]) rfl (getO_N rfl rfl) rfl ta_26 ts_26 rfl rfl rfl) rfl ?_
              refine vops_efE (vef_callP rfl Try.call19 (F_window_At_ok h4 _)) rfl ?_
              refine vops_rd (rd_build (vs := [(0, .int .i64 39), (1, .int .i64 51)]) (ds := [.int .i64 39, .int .i64 51]) tz_24 rfl rfl tp_24 ⟨rfl, rfl, rfl, rfl, trivial⟩ (nt_all2 rfl) rfl) rfl ?_
              refine vops_rd (rd_eqlV (tab := eqTab) eqTab_ok rfl rfl eqg_24 rfl) rfl ?_
              refine vops_rd (rd_mvB rfl) rfl ?_
              refine vops_take rfl (congrArg PV.bool c5) ?_
              refine vops_rd (rd_loadN (ds := [.int .i64 0, .int .i64 3, .int .i64 0, .int .i64 0, .int .i64 0, .int .i64 0, .int .i64 100, .int .i64 60]) rfl (getO_N rfl rfl) rfl ta_35 ts_35 rfl rfl rfl) rfl ?_
              refine vops_take rfl (congrArg PV.bool c5) ?_
              refine vops_rd (rd_loadN (ds := [.int .i64 0, .int .i64 5, .int .i64 40, .int .i64 50]) rfl (getO_N rfl rfl) rfl ta_26 ts_26 rfl rfl rfl) rfl ?_
              refine vops_take rfl (congrArg PV.bool c5) ?_
              refine vops_efE (vef_callP rfl Try.call19 (F_window_At_ok h7 _)) rfl ?_
              refine vops_take rfl (congrArg PV.bool c5) ?_
              refine vops_efE (vef_callP rfl Try.call18 (F_ref05_Nothing_ok h9 _)) rfl ?_
              refine vops_take rfl (congrArg PV.bool c5) ?_
              refine vops_rd (rd_eqlV (tab := eqTab) eqTab_ok rfl rfl eqg_24 rfl) rfl ?_
              refine vops_rd (rd_pickT (congrArg PV.bool c5) rfl) rfl ?_
              refine vops_rd (rd_mvB rfl) rfl ?_
              refine vops_take rfl (congrArg PV.bool c10) ?_
              refine vops_rd (rd_mvB rfl) rfl ?_
              refine vops_rd (rd_pickT (congrArg PV.bool c10) rfl) rfl ?_
              refine vops_rd (rd_mvB rfl) rfl ?_
              refine vops_take rfl (congrArg PV.bool c11) ?_
              refine vops_rd (rd_loadN (ds := [.int .i64 x1.1.Low, .int .i64 x1.1.High]) rfl (getO_N rfl rfl) rfl ta_24 ts_24 rfl rfl rfl) rfl ?_
              refine vops_take rfl (congrArg PV.bool c11) ?_
              refine vops_rd (rd_build (vs := [(0, .int .i64 4), (1, .int .i64 5)]) (ds := [.int .i64 4, .int .i64 5]) tz_24 rfl rfl tp_24 ⟨rfl, rfl, rfl, rfl, trivial⟩ (nt_all2 rfl) rfl) rfl ?_
              refine vops_take rfl (congrArg PV.bool c11) ?_
              refine vops_rd (rd_eqlV (tab := eqTab) eqTab_ok rfl rfl eqg_24 rfl) rfl ?_
              refine vops_rd (rd_pickT (congrArg PV.bool c11) rfl) rfl ?_
              refine vops_rd (rd_mvB rfl) rfl ?_
              refine vops_take rfl (congrArg PV.bool c12) ?_
              refine vops_rd (rd_loadN (ds := [.int .i64 x1.1.Low, .int .i64 x1.1.High]) rfl (getO_N rfl rfl) rfl ta_24 ts_24 rfl rfl rfl) rfl ?_
              refine vops_take rfl (congrArg PV.bool c12) ?_
              refine vops_efE (vef_callP rfl Try.call11 (F_window_Above_ok h14 _)) rfl ?_
              refine vops_take rfl (congrArg PV.bool c12) ?_
              refine vops_rd (rd_eql rfl rfl) rfl ?_
              refine vops_rd (rd_pickT (congrArg PV.bool c12) rfl) rfl ?_
              refine vops_rd (rd_mvB rfl) rfl ?_
              refine vops_take rfl (congrArg PV.bool c15) ?_
              refine vops_rd (rd_loadN (ds := [.int .i64 0, .int .i64 3, .int .i64 0, .int .i64 0, .int .i64 0, .int .i64 0, .int .i64 100, .int .i64 60]) rfl (getO_N rfl rfl) rfl ta_35 ts_35 rfl rfl rfl) rfl ?_
              refine vops_take rfl (congrArg PV.bool c15) ?_
              refine vops_rd (rd_loadN (ds := [.int .i64 0, .int .i64 5, .int .i64 40, .int .i64 50]) rfl (getO_N rfl rfl) rfl ta_26 ts_26 rfl rfl rfl) rfl ?_
              refine vops_take rfl (congrArg PV.bool c15) ?_
              refine vops_efE (vef_callP rfl Try.call17 (F_window_Until_ok h17 _)) rfl ?_
              refine vops_take rfl (congrArg PV.bool c15) ?_
              refine vops_rd (rd_eql rfl rfl) rfl ?_
              refine vops_rd (rd_pickT (congrArg PV.bool c15) rfl) rfl ?_
              refine vops_rd (rd_asB rfl) rfl ?_
              refine vops_nil ?_
              refine vwp_ret ?_
              obtain rfl := Option.some.inj hF
              refine fnR ?_
              exact weak_pick rfl [] (by decide) ⟨rn_low rfl (.bool _), trivial⟩ trivial
            · have hF := bifF c15 hF
              refine vops_rd (rd_loadN (ds := [.int .i64 0, .int .i64 3, .int .i64 0, .int .i64 0, .int .i64 0, .int .i64 0, .int .i64 100, .int .i64 60]) rfl (getO_N rfl rfl) rfl ta_35 ts_35 rfl rfl rfl) rfl ?_
              refine vops_rd (rd_loadN (ds := [.int .i64 0, .int .i64 5, .int .i64 40, .int .i64 50]) rfl (getO_N rfl rfl) rfl ta_26 ts_26 rfl rfl rfl) rfl ?_
              refine vops_efE (vef_callP rfl Try.call19 (F_window_At_ok h4 _)) rfl ?_
              refine vops_rd (rd_build (vs := [(0, .int .i64 39), (1, .int .i64 51)]) (ds := [.int .i64 39, .int .i64 51]) tz_24 rfl rfl tp_24 ⟨rfl, rfl, rfl, rfl, trivial⟩ (nt_all2 rfl) rfl) rfl ?_
              refine vops_rd (rd_eqlV (tab := eqTab) eqTab_ok rfl rfl eqg_24 rfl) rfl ?_
              refine vops_rd (rd_mvB rfl) rfl ?_
              refine vops_take rfl (congrArg PV.bool c5) ?_
              refine vops_rd (rd_loadN (ds := [.int .i64 0, .int .i64 3, .int .i64 0, .int .i64 0, .int .i64 0, .int .i64 0, .int .i64 100, .int .i64 60]) rfl (getO_N rfl rfl) rfl ta_35 ts_35 rfl rfl rfl) rfl ?_
              refine vops_take rfl (congrArg PV.bool c5) ?_
              refine vops_rd (rd_loadN (ds := [.int .i64 0, .int .i64 5, .int .i64 40, .int .i64 50]) rfl (getO_N rfl rfl) rfl ta_26 ts_26 rfl rfl rfl) rfl ?_
              refine vops_take rfl (congrArg PV.bool c5) ?_
              refine vops_efE (vef_callP rfl Try.call19 (F_window_At_ok h7 _)) rfl ?_
              refine vops_take rfl (congrArg PV.bool c5) ?_
              refine vops_efE (vef_callP rfl Try.call18 (F_ref05_Nothing_ok h9 _)) rfl ?_
              refine vops_take rfl (congrArg PV.bool c5) ?_
              refine vops_rd (rd_eqlV (tab := eqTab) eqTab_ok rfl rfl eqg_24 rfl) rfl ?_
              refine vops_rd (rd_pickT (congrArg PV.bool c5) rfl) rfl ?_
              refine vops_rd (rd_mvB rfl) rfl ?_
              refine vops_take rfl (congrArg PV.bool c10) ?_
              refine vops_rd (rd_mvB rfl) rfl ?_
              refine vops_rd (rd_pickT (congrArg PV.bool c10) rfl) rfl ?_
              refine vops_rd (rd_mvB rfl) rfl ?_
              refine vops_take rfl (congrArg PV.bool c11) ?_
              refine vops_rd (rd_loadN (ds := [.int .i64 x1.1.Low, .int .i64 x1.1.High]) rfl (getO_N rfl rfl) rfl ta_24 ts_24 rfl rfl rfl) rfl ?_
              refine vops_take rfl (congrArg PV.bool c11) ?_
              refine vops_rd (rd_build (vs := [(0, .int .i64 4), (1, .int .i64 5)]) (ds := [.int .i64 4, .int .i64 5]) tz_24 rfl rfl tp_24 ⟨rfl, rfl, rfl, rfl, trivial⟩ (nt_all2 rfl) rfl) rfl ?_
              refine vops_take rfl (congrArg PV.bool c11) ?_
              refine vops_rd (rd_eqlV (tab := eqTab) eqTab_ok rfl rfl eqg_24 rfl) rfl ?_
              refine vops_rd (rd_pickT (congrArg PV.bool c11) rfl) rfl ?_
              refine vops_rd (rd_mvB rfl) rfl ?_
              refine vops_take rfl (congrArg PV.bool c12) ?_
              refine vops_rd (rd_loadN (ds := [.int .i64 x1.1.Low, .int .i64 x1.1.High]) rfl (getO_N rfl rfl) rfl ta_24 ts_24 rfl rfl rfl) rfl ?_
              refine vops_take rfl (congrArg PV.bool c12) ?_
              refine vops_efE (vef_callP rfl Try.call11 (F_window_Above_ok h14 _)) rfl ?_
              refine vops_take rfl (congrArg PV.bool c12) ?_
              refine vops_rd (rd_eql rfl rfl) rfl ?_
              refine vops_rd (rd_pickT (congrArg PV.bool c12) rfl) rfl ?_
              refine vops_rd (rd_mvB rfl) rfl ?_
              refine vops_skip rfl rfl (neF c15) rfl ?_
              refine vops_skip rfl rfl (neF c15) rfl ?_
              refine vops_skip rfl rfl (neF c15) rfl ?_
              refine vops_skip rfl rfl (neF c15) rfl ?_
              refine vops_rd (rd_pickF (congrArg PV.bool c15) rfl) rfl ?_
              refine vops_rd (rd_asB rfl) rfl ?_
              refine vops_nil ?_
              refine vwp_ret ?_
              obtain rfl := Option.some.inj hF
              refine fnR ?_
              exact weak_pick rfl [] (by decide) ⟨rn_low rfl (.bool _), trivial⟩ trivial
          · have hF := bifF c12 hF
            refine vops_rd (rd_loadN (ds := [.int .i64 0, .int .i64 3, .int .i64 0, .int .i64 0, .int .i64 0, .int .i64 0, .int .i64 100, .int .i64 60]) rfl (getO_N rfl rfl) rfl ta_35 ts_35 rfl rfl rfl) rfl ?_
            refine vops_rd (rd_loadN (ds := [.int .i64 0, .int .i64 5, .int .i64 40, .int .i64 50]) rfl (getO_N rfl rfl) rfl ta_26 ts_26 rfl rfl rfl) rfl ?_
            refine vops_efE (vef_callP rfl Try.call19 (F_window_At_ok h4 _)) rfl ?_
            refine vops_rd (rd_build (vs := [(0, .int .i64 39), (1, .int .i64 51)]) (ds := [.int .i64 39, .int .i64 51]) tz_24 rfl rfl tp_24 ⟨rfl, rfl, rfl, rfl, trivial⟩ (nt_all2 rfl) rfl) rfl ?_
            refine vops_rd (rd_eqlV (tab := eqTab) eqTab_ok rfl rfl eqg_24 rfl) rfl ?_
            refine vops_rd (rd_mvB rfl) rfl ?_
            refine vops_take rfl (congrArg PV.bool c5) ?_
            refine vops_rd (rd_loadN (ds := [.int .i64 0, .int .i64 3, .int .i64 0, .int .i64 0, .int .i64 0, .int .i64 0, .int .i64 100, .int .i64 60]) rfl (getO_N rfl rfl) rfl ta_35 ts_35 rfl rfl rfl) rfl ?_
            refine vops_take rfl (congrArg PV.bool c5) ?_
            refine vops_rd (rd_loadN (ds := [.int .i64 0, .int .i64 5, .int .i64 40, .int .i64 50]) rfl (getO_N rfl rfl) rfl ta_26 ts_26 rfl rfl rfl) rfl ?_
            refine vops_take rfl (congrArg PV.bool c5) ?_
            refine vops_efE (vef_callP rfl Try.call19 (F_window_At_ok h7 _)) rfl ?_
            refine vops_take rfl (congrArg PV.bool c5) ?_
            refine vops_efE (vef_callP rfl Try.call18 (F_ref05_Nothing_ok h9 _)) rfl ?_
            refine vops_take rfl (congrArg PV.bool c5) ?_
            refine vops_rd (rd_eqlV (tab := eqTab) eqTab_ok rfl rfl eqg_24 rfl) rfl ?_
            refine vops_rd (rd_pickT (congrArg PV.bool c5) rfl) rfl ?_
            refine vops_rd (rd_mvB rfl) rfl ?_
            refine vops_take rfl (congrArg PV.bool c10) ?_
            refine vops_rd (rd_mvB rfl) rfl ?_
            refine vops_rd (rd_pickT (congrArg PV.bool c10) rfl) rfl ?_
            refine vops_rd (rd_mvB rfl) rfl ?_
            refine vops_take rfl (congrArg PV.bool c11) ?_
            refine vops_rd (rd_loadN (ds := [.int .i64 x1.1.Low, .int .i64 x1.1.High]) rfl (getO_N rfl rfl) rfl ta_24 ts_24 rfl rfl rfl) rfl ?_
            refine vops_take rfl (congrArg PV.bool c11) ?_
            refine vops_rd (rd_build (vs := [(0, .int .i64 4), (1, .int .i64 5)]) (ds := [.int .i64 4, .int .i64 5]) tz_24 rfl rfl tp_24 ⟨rfl, rfl, rfl, rfl, trivial⟩ (nt_all2 rfl) rfl) rfl ?_
            refine vops_take rfl (congrArg PV.bool c11) ?_
            refine vops_rd (rd_eqlV (tab := eqTab) eqTab_ok rfl rfl eqg_24 rfl) rfl ?_
            refine vops_rd (rd_pickT (congrArg PV.bool c11) rfl) rfl ?_
            refine vops_rd (rd_mvB rfl) rfl ?_
            refine vops_skip rfl rfl (neF c12) rfl ?_
            refine vops_skip rfl rfl (neF c12) rfl ?_
            refine vops_skip rfl rfl (neF c12) rfl ?_
            refine vops_rd (rd_pickF (congrArg PV.bool c12) rfl) rfl ?_
            refine vops_rd (rd_mvB rfl) rfl ?_
            refine vops_skip rfl rfl (by decide) rfl ?_
            refine vops_skip rfl rfl (by decide) rfl ?_
            refine vops_skip rfl rfl (by decide) rfl ?_
            refine vops_skip rfl rfl (by decide) rfl ?_
            refine vops_rd (rd_pickF rfl rfl) rfl ?_
            refine vops_rd (rd_asB rfl) rfl ?_
            refine vops_nil ?_
            refine vwp_ret ?_
            obtain rfl := Option.some.inj hF
            refine fnR ?_
            exact weak_pick rfl [] (by decide) ⟨rn_low rfl (.bool _), trivial⟩ trivial
        · have hF := bifF c11 hF
          refine vops_rd (rd_loadN (ds := [.int .i64 0, .int .i64 3, .int .i64 0, .int .i64 0, .int .i64 0, .int .i64 0, .int .i64 100, .int .i64 60]) rfl (getO_N rfl rfl) rfl ta_35 ts_35 rfl rfl rfl) rfl ?_
          refine vops_rd (rd_loadN (ds := [.int .i64 0, .int .i64 5, .int .i64 40, .int .i64 50]) rfl (getO_N rfl rfl) rfl ta_26 ts_26 rfl rfl rfl) rfl ?_
          refine vops_efE (vef_callP rfl Try.call19 (F_window_At_ok h4 _)) rfl ?_
          refine vops_rd (rd_build (vs := [(0, .int .i64 39), (1, .int .i64 51)]) (ds := [.int .i64 39, .int .i64 51]) tz_24 rfl rfl tp_24 ⟨rfl, rfl, rfl, rfl, trivial⟩ (nt_all2 rfl) rfl) rfl ?_
          refine vops_rd (rd_eqlV (tab := eqTab) eqTab_ok rfl rfl eqg_24 rfl) rfl ?_
          refine vops_rd (rd_mvB rfl) rfl ?_
          refine vops_take rfl (congrArg PV.bool c5) ?_
          refine vops_rd (rd_loadN (ds := [.int .i64 0, .int .i64 3, .int .i64 0, .int .i64 0, .int .i64 0, .int .i64 0, .int .i64 100, .int .i64 60]) rfl (getO_N rfl rfl) rfl ta_35 ts_35 rfl rfl rfl) rfl ?_
          refine vops_take rfl (congrArg PV.bool c5) ?_
          refine vops_rd (rd_loadN (ds := [.int .i64 0, .int .i64 5, .int .i64 40, .int .i64 50]) rfl (getO_N rfl rfl) rfl ta_26 ts_26 rfl rfl rfl) rfl ?_
          refine vops_take rfl (congrArg PV.bool c5) ?_
          refine vops_efE (vef_callP rfl Try.call19 (F_window_At_ok h7 _)) rfl ?_
          refine vops_take rfl (congrArg PV.bool c5) ?_
          refine vops_efE (vef_callP rfl Try.call18 (F_ref05_Nothing_ok h9 _)) rfl ?_
          refine vops_take rfl (congrArg PV.bool c5) ?_
          refine vops_rd (rd_eqlV (tab := eqTab) eqTab_ok rfl rfl eqg_24 rfl) rfl ?_
          refine vops_rd (rd_pickT (congrArg PV.bool c5) rfl) rfl ?_
          refine vops_rd (rd_mvB rfl) rfl ?_
          refine vops_take rfl (congrArg PV.bool c10) ?_
          refine vops_rd (rd_mvB rfl) rfl ?_
          refine vops_rd (rd_pickT (congrArg PV.bool c10) rfl) rfl ?_
          refine vops_rd (rd_mvB rfl) rfl ?_
          refine vops_skip rfl rfl (neF c11) rfl ?_
          refine vops_skip rfl rfl (neF c11) rfl ?_
          refine vops_skip rfl rfl (neF c11) rfl ?_
          refine vops_rd (rd_pickF (congrArg PV.bool c11) rfl) rfl ?_
          refine vops_rd (rd_mvB rfl) rfl ?_
          refine vops_skip rfl rfl (by decide) rfl ?_
          refine vops_skip rfl rfl (by decide) rfl ?_
          refine vops_skip rfl rfl (by decide) rfl ?_
          refine vops_rd (rd_pickF rfl rfl) rfl ?_
          refine vops_rd (rd_mvB rfl) rfl ?_
          refine vops_skip rfl rfl (by decide) rfl ?_
          refine vops_skip rfl rfl (by decide) rfl ?_
          refine vops_skip rfl rfl (by decide) rfl ?_
          refine vops_skip rfl rfl (by decide) rfl ?_
          refine vops_rd (rd_pickF rfl rfl) rfl ?_
          refine vops_rd (rd_asB rfl) rfl ?_
          refine vops_nil ?_
          refine vwp_ret ?_
          obtain rfl := Option.some.inj hF
          refine fnR ?_
          exact weak_pick rfl [] (by decide) ⟨rn_low rfl (.bool _), trivial⟩ trivial
      · have hF := bifF c10 hF
        refine vops_rd (rd_loadN (ds := [.int .i64 0, .int .i64 3, .int .i64 0, .int .i64 0, .int .i64 0, .int .i64 0, .int .i64 100, .int .i64 60]) rfl (getO_N rfl rfl) rfl ta_35 ts_35 rfl rfl rfl) rfl ?_
        refine vops_rd (rd_loadN (ds := [.int .i64 0, .int .i64 5, .int .i64 40, .int .i64 50]) rfl (getO_N rfl rfl) rfl ta_26 ts_26 rfl rfl rfl) rfl ?_
        refine vops_efE (vef_callP rfl Try.call19 (F_window_At_ok h4 _)) rfl ?_
        refine vops_rd (rd_build (vs := [(0, .int .i64 39), (1, .int .i64 51)]) (ds := [.int .i64 39, .int .i64 51]) tz_24 rfl rfl tp_24 ⟨rfl, rfl, rfl, rfl, trivial⟩ (nt_all2 rfl) rfl) rfl ?_
        refine vops_rd (rd_eqlV (tab := eqTab) eqTab_ok rfl rfl eqg_24 rfl) rfl ?_
        refine vops_rd (rd_mvB rfl) rfl ?_
        refine vops_take rfl (congrArg PV.bool c5) ?_
        refine vops_rd (rd_loadN (ds := [.int .i64 0, .int .i64 3, .int .i64 0, .int .i64 0, .int .i64 0, .int .i64 0, .int .i64 100, .int .i64 60]) rfl (getO_N rfl rfl) rfl ta_35 ts_35 rfl rfl rfl) rfl ?_
        refine vops_take rfl (congrArg PV.bool c5) ?_
        refine vops_rd (rd_loadN (ds := [.int .i64 0, .int .i64 5, .int .i64 40, .int .i64 50]) rfl (getO_N rfl rfl) rfl ta_26 ts_26 rfl rfl rfl) rfl ?_
        refine vops_take rfl (congrArg PV.bool c5) ?_
        refine vops_efE (vef_callP rfl Try.call19 (F_window_At_ok h7 _)) rfl ?_
        refine vops_take rfl (congrArg PV.bool c5) ?_
        refine vops_efE (vef_callP rfl Try.call18 (F_ref05_Nothing_ok h9 _)) rfl ?_
        refine vops_take rfl (congrArg PV.bool c5) ?_
        refine vops_rd (rd_eqlV (tab := eqTab) eqTab_ok rfl rfl eqg_24 rfl) rfl ?_
        refine vops_rd (rd_pickT (congrArg PV.bool c5) rfl) rfl ?_
        refine vops_rd (rd_mvB rfl) rfl ?_
        refine vops_skip rfl rfl (neF c10) rfl ?_
        refine vops_rd (rd_pickF (congrArg PV.bool c10) rfl) rfl ?_
        refine vops_rd (rd_mvB rfl) rfl ?_
        refine vops_skip rfl rfl (by decide) rfl ?_
        refine vops_skip rfl rfl (by decide) rfl ?_
        refine vops_skip rfl rfl (by decide) rfl ?_
        refine vops_rd (rd_pickF rfl rfl) rfl ?_
        refine vops_rd (rd_mvB rfl) rfl ?_
        refine vops_skip rfl rfl (by decide) rfl ?_
        refine vops_skip rfl rfl (by decide) rfl ?_
        refine vops_skip rfl rfl (by decide) rfl ?_
        refine vops_rd (rd_pickF rfl rfl) rfl ?_
        refine vops_rd (rd_mvB rfl) rfl ?_
        refine vops_skip rfl rfl (by decide) rfl ?_
        refine vops_skip rfl rfl (by decide) rfl ?_
        refine vops_skip rfl rfl (by decide) rfl ?_
        refine vops_skip rfl rfl (by decide) rfl ?_
        refine vops_rd (rd_pickF rfl rfl) rfl ?_
        refine vops_rd (rd_asB rfl) rfl ?_
        refine vops_nil ?_
        refine vwp_ret ?_
        obtain rfl := Option.some.inj hF
        refine fnR ?_
        exact weak_pick rfl [] (by decide) ⟨rn_low rfl (.bool _), trivial⟩ trivial
    · have hF := bifF c5 hF
      refine vops_rd (rd_loadN (ds := [.int .i64 0, .int .i64 3, .int .i64 0, .int .i64 0, .int .i64 0, .int .i64 0, .int .i64 100, .int .i64 60]) rfl (getO_N rfl rfl) rfl ta_35 ts_35 rfl rfl rfl) rfl ?_
      refine vops_rd (rd_loadN (ds := [.int .i64 0, .int .i64 5, .int .i64 40, .int .i64 50]) rfl (getO_N rfl rfl) rfl ta_26 ts_26 rfl rfl rfl) rfl ?_
      refine vops_efE (vef_callP rfl Try.call19 (F_window_At_ok h4 _)) rfl ?_
      refine vops_rd (rd_build (vs := [(0, .int .i64 39), (1, .int .i64 51)]) (ds := [.int .i64 39, .int .i64 51]) tz_24 rfl rfl tp_24 ⟨rfl, rfl, rfl, rfl, trivial⟩ (nt_all2 rfl) rfl) rfl ?_
      refine vops_rd (rd_eqlV (tab := eqTab) eqTab_ok rfl rfl eqg_24 rfl) rfl ?_
      refine vops_rd (rd_mvB rfl) rfl ?_
      refine vops_skip rfl rfl (neF c5) rfl ?_
      refine vops_skip rfl rfl (neF c5) rfl ?_
      refine vops_skip rfl rfl (neF c5) rfl ?_
      refine vops_skip rfl rfl (neF c5) rfl ?_
      refine vops_skip rfl rfl (neF c5) rfl ?_
      refine vops_rd (rd_pickF (congrArg PV.bool c5) rfl) rfl ?_
      refine vops_rd (rd_mvB rfl) rfl ?_
      refine vops_skip rfl rfl (by decide) rfl ?_
      refine vops_rd (rd_pickF rfl rfl) rfl ?_
      refine vops_rd (rd_mvB rfl) rfl ?_
      refine vops_skip rfl rfl (by decide) rfl ?_
      refine vops_skip rfl rfl (by decide) rfl ?_
      refine vops_skip rfl rfl (by decide) rfl ?_
      refine vops_rd (rd_pickF rfl rfl) rfl ?_
      refine vops_rd (rd_mvB rfl) rfl ?_
      refine vops_skip rfl rfl (by decide) rfl ?_
      refine vops_skip rfl rfl (by decide) rfl ?_
      refine vops_skip rfl rfl (by decide) rfl ?_
      refine vops_rd (rd_pickF rfl rfl) rfl ?_
      refine vops_rd (rd_mvB rfl) rfl ?_
      refine vops_skip rfl rfl (by decide) rfl ?_
      refine vops_skip rfl rfl (by decide) rfl ?_
      refine vops_skip rfl rfl (by decide) rfl ?_
      refine vops_skip rfl rfl (by decide) rfl ?_
      refine vops_rd (rd_pickF rfl rfl) rfl ?_
      refine vops_rd (rd_asB rfl) rfl ?_
      refine vops_nil ?_
      refine vwp_ret ?_
      obtain rfl := Option.some.inj hF
      refine fnR ?_
      exact weak_pick rfl [] (by decide) ⟨rn_low rfl (.bool _), trivial⟩ trivial
  · rintro _ _ _ _ ⟨he, hw⟩
    refine ⟨_, _, _, hw, ?_⟩
    exact bodyQ_pure he [.bool r] ⟨rfl, trivial⟩ (.bool _) ⟨rfl, rfl⟩

end Go.Proofs.Ytnphpimajaadpaa
