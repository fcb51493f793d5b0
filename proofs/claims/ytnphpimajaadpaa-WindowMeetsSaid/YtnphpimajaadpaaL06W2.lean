/- Printed by wip/lift/lift.py: the walks that show that the program computes them. -/
import Derived.Test.YtnphpimajaadpaaL06W1
namespace Go.Proofs.Ytnphpimajaadpaa
open Go Go.Aml Go.L
attribute [local irreducible] VRd VEf VOp VOps VWp DOps
set_option linter.unusedVariables false
set_option maxHeartbeats 4000000

theorem F_law06_WindowAbove_ok {p0 : List Int} {p1 : T_Span} {p2 : Int} {r : Bool} (hF : F_law06_WindowAbove p0 p1 p2 = some r) (low : List AObj) :
    VCalls Try.prog 3 [.vs 1 (List.map (PV.int .u8) p0), .agg [.int .i64 p1.Low, .int .i64 p1.High], .int .i64 p2] low fun x low' => x = .bool r ∧ low' = low := by
  refine vcalls_of_body (nt := 57) (rs := [.tmp 6]) Try.func3 rfl rfl (Nat.le_of_ble_eq_true rfl) rfl ?_
  refine vwp_monoW (Q' := FnE (fun E' lw lc => Weak E' lw lc [(6, .bool r)] low [])) ?_ ?_
  · unfold F_law06_WindowAbove at hF
    refine vwp_seq ?_
    refine vwp_region ?_
    refine vops_efE (vef_boxN rfl rfl (v := .agg [.int .i64 p1.Low, .int .i64 p1.High]) rfl rfl (Nat.succ_pos _) rfl rfl) rfl ?_
    refine vops_rd (rd_asB rfl) rfl ?_
    refine vops_nil ?_
    refine vwp_seq ?_
    refine vwp_region ?_
    obtain ⟨x1, h2, hF⟩ := bnd hF
    obtain ⟨x3, h4, hF⟩ := bnd hF
    refine vops_rd (rd_mvV rfl) rfl ?_
    refine vops_efE (vef_callN (r := .ptr (low.length + 1) 0 0 0) (os := [⟨51, 2, [.agg [.vs 1 (List.map (PV.int .u8) x1.l), .int .i64 x1.at_]], 0⟩]) rfl Try.call9 (F_draw_New_ok h2 _ (len_app rfl rfl))) rfl ?_
    refine vops_efE (vef_callMN (k := 1) (loc1 := [⟨24, 2, [.agg [.int .i64 p1.Low, .int .i64 p1.High]], 0⟩, ⟨51, 2, [.agg [.vs 1 (List.map (PV.int .u8) x3.1.l), .int .i64 x3.1.at_]], 0⟩]) rfl rfl Try.call8 (F_law06_measured_ok h4 (get_N rfl rfl)) rfl) rfl ?_
    refine vops_rd (rd_fieldN (ds := [.int .i64 x3.2.Span.Low, .int .i64 x3.2.Span.High]) rfl tf_26_2 ta_24 ts_24 rfl) rfl ?_
    refine vops_efE (vef_allocN rfl rfl tz_24 rfl rfl (Nat.succ_pos _) rfl) rfl ?_
    refine vops_efE (vef_store (p := .agg [.int .i64 x3.2.Span.Low, .int .i64 x3.2.Span.High]) (e' := .agg [.int .i64 x3.2.Span.Low, .int .i64 x3.2.Span.High]) rfl (getO_N rfl rfl) rfl rfl ts_24 rfl (nt_ne rfl) rfl (Nat.le_of_ble_eq_true rfl) rfl (setO_N rfl rfl)) rfl ?_
    refine vops_nil ?_
    refine vwp_seq ?_
    refine vwp_region ?_
    obtain ⟨x5, h6, hF⟩ := bnd hF
    refine vops_rd (rd_mvI rfl) rfl ?_
    refine vops_efE (vef_callP rfl Try.call10 (F_draw_Mod_ok h6 _)) rfl ?_
    refine vops_rd (rd_sub rfl rfl rfl) rfl ?_
    refine vops_rd (rd_asI rfl) rfl ?_
    refine vops_nil ?_
    refine vwp_seq ?_
    obtain ⟨x7, h8, hF⟩ := bnd hF
    obtain ⟨x9, h10, hF⟩ := bnd hF
    rcases Bool.eq_false_or_eq_true (decide (x7 = x9)) with c11 | c11
    · have hF := bifT c11 hF
      obtain ⟨x12, h13, hF⟩ := bnd hF
      obtain ⟨x14, h15, hF⟩ := bnd hF
      rcases Bool.eq_false_or_eq_true (decide (x12 = x14)) with c16 | c16
      · have hF := bifT c16 hF
        obtain ⟨x17, h18, hF⟩ := bnd hF
        obtain ⟨x19, h20, hF⟩ := bnd hF
        rcases Bool.eq_false_or_eq_true (decide (x17 = x19)) with c21 | c21
        · have hF := bifT c21 hF
          obtain ⟨x22, h23, hF⟩ := bnd hF
          obtain ⟨x24, h25, hF⟩ := bnd hF
          rcases Bool.eq_false_or_eq_true (decide (x22 = x24)) with c26 | c26
          · have hF := bifT c26 hF
            obtain ⟨x27, h28, hF⟩ := bnd hF
            refine vwp_drawn [[], [], [0, 1], [], [], [0, 1, 2, 3, 4], [0, 1, 2, 3, 4, 5], [0, 1, 2, 3, 4, 5, 6], [0, 1, 2, 3, 4, 5, 6, 7], [0, 1, 2, 3, 4, 5, 6, 7], [0, 1, 2, 3, 4, 5, 6, 7, 8, 9], [0, 1, 2, 3, 4, 5, 6, 7], [0, 1, 2, 3, 4, 5, 6, 7], [0, 1, 2, 3, 4, 5, 6, 7, 8, 9, 10, 11, 12], [0, 1, 2, 3, 4, 5, 6, 7, 8, 9, 10, 11, 12, 13], [0, 1, 2, 3, 4, 5, 6, 7, 8, 9, 10, 11, 12, 13, 14], [0, 1, 2, 3, 4, 5, 6, 7, 8, 9, 10, 11, 12, 13, 14, 15], [0, 1, 2, 3, 4, 5, 6, 7, 8, 9, 10, 11, 12, 13, 14, 15, 16], [0, 1, 2, 3, 4, 5, 6, 7, 8, 9, 10, 11, 12, 13, 14, 15, 16], [0, 1, 2, 3, 4, 5, 6, 7, 8, 9, 10, 11, 12, 13, 14, 15, 16, 18], [0, 1, 2, 3, 4, 5, 6, 7, 8, 9, 10, 11, 12, 13, 14, 15, 16, 17, 18, 19], [0, 1, 2, 3, 4, 5, 6, 7, 8, 9, 10, 11, 12, 13, 14, 15, 16], [0, 1, 2, 3, 4, 5, 6, 7, 8, 9, 10, 11, 12, 13, 14, 15, 16], [0, 1, 2, 3, 4, 5, 6, 7, 8, 9, 10, 11, 12, 13, 14, 15, 16, 22], [0, 1, 2, 3, 4, 5, 6, 7, 8, 9, 10, 11, 12, 13, 14, 15, 16, 17, 18, 19, 20, 21, 22, 23], [0, 1, 2, 3, 4, 5, 6, 7, 8, 9, 10, 11, 12, 13, 14, 15, 16, 17, 18, 19, 20, 21, 22, 23, 24], [0, 1, 2, 3, 4, 5, 6, 7, 8, 9, 10, 11, 12, 13, 14, 15, 16, 17, 18, 19, 20, 21, 22, 23, 24, 25], [0, 1, 2, 3, 4, 5, 6, 7, 8, 9, 10, 11, 12, 13, 14, 15, 16, 17, 18, 19, 20, 21, 22, 23, 24, 25, 26], [0, 1, 2, 3, 4, 5, 6, 7, 8, 9, 10, 11, 12, 13, 14, 15, 16, 17, 18, 19, 20, 21, 22, 23, 24, 25, 26, 27], [0, 1, 2, 3, 4, 5, 6, 7, 8, 9, 10, 11, 12, 13, 14, 15, 16, 17, 18, 19, 20, 21, 22, 23, 24, 25, 26, 27], [0, 1, 2, 3, 4, 5, 6, 7, 8, 9, 10, 11, 12, 13, 14, 15, 16, 17, 18, 19, 20, 21, 22, 23, 24, 25, 26, 27, 29], [0, 1, 2, 3, 4, 5, 6, 7, 8, 9, 10, 11, 12, 13, 14, 15, 16, 17, 18, 19, 20, 21, 22, 23, 24, 25, 26, 27, 28, 29, 30], [0, 1, 2, 3, 4, 5, 6, 7, 8, 9, 10, 11, 12, 13, 14, 15, 16, 17, 18, 19, 20, 21, 22, 23, 24, 25, 26, 27], [0, 1, 2, 3, 4, 5, 6, 7, 8, 9, 10, 11, 12, 13, 14, 15, 16, 17, 18, 19, 20, 21, 22, 23, 24, 25, 26, 27], [0, 1, 2, 3, 4, 5, 6, 7, 8, 9, 10, 11, 12, 13, 14, 15, 16, 17, 18, 19, 20, 21, 22, 23, 24, 25, 26, 27, 33], [0, 1, 2, 3, 4, 5, 6, 7, 8, 9, 10, 11, 12, 13, 14, 15, 16, 17, 18, 19, 20, 21, 22, 23, 24, 25, 26, 27, 28, 29, 30, 31, 32, 33, 34], [0, 1, 2, 3, 4, 5, 6, 7, 8, 9, 10, 11, 12, 13, 14, 15, 16, 17, 18, 19, 20, 21, 22, 23, 24, 25, 26, 27, 28, 29, 30, 31, 32, 33, 34, 35], [0, 1, 2, 3, 4, 5, 6, 7, 8, 9, 10, 11, 12, 13, 14, 15, 16, 17, 18, 19, 20, 21, 22, 23, 24, 25, 26, 27, 28, 29, 30, 31, 32, 33, 34, 35, 36], [0, 1, 2, 3, 4, 5, 6, 7, 8, 9, 10, 11, 12, 13, 14, 15, 16, 17, 18, 19, 20, 21, 22, 23, 24, 25, 26, 27, 28, 29, 30, 31, 32, 33, 34, 35, 36, 37], [0, 1, 2, 3, 4, 5, 6, 7, 8, 9, 10, 11, 12, 13, 14, 15, 16, 17, 18, 19, 20, 21, 22, 23, 24, 25, 26, 27, 28, 29, 30, 31, 32, 33, 34, 35, 36, 37, 38], [0, 1, 2, 3, 4, 5, 6, 7, 8, 9, 10, 11, 12, 13, 14, 15, 16, 17, 18, 19, 20, 21, 22, 23, 24, 25, 26, 27, 28, 29, 30, 31, 32, 33, 34, 35, 36, 37, 38, 39], [0, 1, 2, 3, 4, 5, 6, 7, 8, 9, 10, 11, 12, 13, 14, 15, 16, 17, 18, 19, 20, 21, 22, 23, 24, 25, 26, 27, 28, 29, 30, 31, 32, 33, 34, 35, 36, 37, 38, 39, 40]] [false, false, false, false, false, false, false, false, false, false, false, false, false, false, false, false, false, false, false, false, false, false, false, false, false, false, false, false, false, false, false, false, false, false, false, false, false, false, false, false, false, false] [(low, [⟨24, 2, [.agg [.int .i64 p1.Low, .int .i64 p1.High]], 0⟩, ⟨51, 2, [.agg [.vs 1 (List.map (PV.int .u8) x3.1.l), .int .i64 x3.1.at_]], 0⟩, ⟨24, 2, [.agg [.int .i64 x3.2.Span.Low, .int .i64 x3.2.Span.High]], 0⟩])] mixed (by kernel_rfl) rfl (lenAll (all1 rfl all0)) rfl (low, [⟨24, 2, [.agg [.int .i64 p1.Low, .int .i64 p1.High]], 0⟩, ⟨51, 2, [.agg [.vs 1 (List.map (PV.int .u8) x3.1.l), .int .i64 x3.1.at_]], 0⟩, ⟨24, 2, [.agg [.int .i64 x3.2.Span.Low, .int .i64 x3.2.Span.High]], 0⟩]) rfl rfl ?_
            refine dops_rdW [(low, [⟨24, 2, [.agg [.int .i64 p1.Low, .int .i64 p1.High]], 0⟩, ⟨51, 2, [.agg [.vs 1 (List.map (PV.int .u8) x3.1.l), .int .i64 x3.1.at_]], 0⟩, ⟨24, 2, [.agg [.int .i64 x3.2.Span.Low, .int .i64 x3.2.Span.High]], 0⟩])] rfl rfl (all1 (VRd.ntl (rd_loadN (ds := [.int .i64 p1.Low, .int .i64 p1.High]) rfl (getO_N rfl rfl) rfl ta_24 ts_24 rfl rfl rfl)) all0) ?_
            refine dops_rdW [(low, [⟨24, 2, [.agg [.int .i64 p1.Low, .int .i64 p1.High]], 0⟩, ⟨51, 2, [.agg [.vs 1 (List.map (PV.int .u8) x3.1.l), .int .i64 x3.1.at_]], 0⟩, ⟨24, 2, [.agg [.int .i64 x3.2.Span.Low, .int .i64 x3.2.Span.High]], 0⟩])] rfl rfl (all1 (VRd.ntl (rd_mvI rfl)) all0) ?_
            refine dops_rdW [(low, [⟨24, 2, [.agg [.int .i64 p1.Low, .int .i64 p1.High]], 0⟩, ⟨51, 2, [.agg [.vs 1 (List.map (PV.int .u8) x3.1.l), .int .i64 x3.1.at_]], 0⟩, ⟨24, 2, [.agg [.int .i64 x3.2.Span.Low, .int .i64 x3.2.Span.High]], 0⟩])] rfl rfl (all1 (nt_of (vef_callP rfl Try.call11 (F_window_Above_ok h8 _))) all0) ?_
            refine dops_rdW [(low, [⟨24, 2, [.agg [.int .i64 p1.Low, .int .i64 p1.High]], 0⟩, ⟨51, 2, [.agg [.vs 1 (List.map (PV.int .u8) x3.1.l), .int .i64 x3.1.at_]], 0⟩, ⟨24, 2, [.agg [.int .i64 x3.2.Span.Low, .int .i64 x3.2.Span.High]], 0⟩])] rfl rfl (all1 (VRd.ntl (rd_loadN (ds := [.int .i64 p1.Low, .int .i64 p1.High]) rfl (getO_N rfl rfl) rfl ta_24 ts_24 rfl rfl rfl)) all0) ?_
            refine dops_rdW [(low, [⟨24, 2, [.agg [.int .i64 p1.Low, .int .i64 p1.High]], 0⟩, ⟨51, 2, [.agg [.vs 1 (List.map (PV.int .u8) x3.1.l), .int .i64 x3.1.at_]], 0⟩, ⟨24, 2, [.agg [.int .i64 x3.2.Span.Low, .int .i64 x3.2.Span.High]], 0⟩])] rfl rfl (all1 (VRd.ntl (rd_mvI rfl)) all0) ?_
            refine dops_rdW [(low, [⟨24, 2, [.agg [.int .i64 p1.Low, .int .i64 p1.High]], 0⟩, ⟨51, 2, [.agg [.vs 1 (List.map (PV.int .u8) x3.1.l), .int .i64 x3.1.at_]], 0⟩, ⟨24, 2, [.agg [.int .i64 x3.2.Span.Low, .int .i64 x3.2.Span.High]], 0⟩])] rfl rfl (all1 (nt_of (vef_callP rfl Try.call12 (F_ref06_Above_ok h10 _))) all0) ?_
            refine dops_rdW [(low, [⟨24, 2, [.agg [.int .i64 p1.Low, .int .i64 p1.High]], 0⟩, ⟨51, 2, [.agg [.vs 1 (List.map (PV.int .u8) x3.1.l), .int .i64 x3.1.at_]], 0⟩, ⟨24, 2, [.agg [.int .i64 x3.2.Span.Low, .int .i64 x3.2.Span.High]], 0⟩])] rfl rfl (all1 (VRd.ntl (rd_eql rfl rfl)) all0) ?_
            refine dops_rdW [(low, [⟨24, 2, [.agg [.int .i64 p1.Low, .int .i64 p1.High]], 0⟩, ⟨51, 2, [.agg [.vs 1 (List.map (PV.int .u8) x3.1.l), .int .i64 x3.1.at_]], 0⟩, ⟨24, 2, [.agg [.int .i64 x3.2.Span.Low, .int .i64 x3.2.Span.High]], 0⟩])] rfl rfl (all1 (VRd.ntl (rd_mvB rfl)) all0) ?_
            refine dops_takeW [(low, [⟨24, 2, [.agg [.int .i64 p1.Low, .int .i64 p1.High]], 0⟩, ⟨51, 2, [.agg [.vs 1 (List.map (PV.int .u8) x3.1.l), .int .i64 x3.1.at_]], 0⟩, ⟨24, 2, [.agg [.int .i64 x3.2.Span.Low, .int .i64 x3.2.Span.High]], 0⟩])] rfl rfl rfl (congrArg PV.bool c11) (all1 (VRd.ntl (rd_loadN (ds := [.int .i64 x3.2.Span.Low, .int .i64 x3.2.Span.High]) rfl (getO_N rfl rfl) rfl ta_24 ts_24 rfl rfl rfl)) all0) ?_
            refine dops_takeW [(low, [⟨24, 2, [.agg [.int .i64 p1.Low, .int .i64 p1.High]], 0⟩, ⟨51, 2, [.agg [.vs 1 (List.map (PV.int .u8) x3.1.l), .int .i64 x3.1.at_]], 0⟩, ⟨24, 2, [.agg [.int .i64 x3.2.Span.Low, .int .i64 x3.2.Span.High]], 0⟩])] rfl rfl rfl (congrArg PV.bool c11) (all1 (VRd.ntl (rd_mvI rfl)) all0) ?_
            refine dops_takeW [(low, [⟨24, 2, [.agg [.int .i64 p1.Low, .int .i64 p1.High]], 0⟩, ⟨51, 2, [.agg [.vs 1 (List.map (PV.int .u8) x3.1.l), .int .i64 x3.1.at_]], 0⟩, ⟨24, 2, [.agg [.int .i64 x3.2.Span.Low, .int .i64 x3.2.Span.High]], 0⟩])] rfl rfl rfl (congrArg PV.bool c11) (all1 (nt_of (vef_callP rfl Try.call11 (F_window_Above_ok h13 _))) all0) ?_
            refine dops_takeW [(low, [⟨24, 2, [.agg [.int .i64 p1.Low, .int .i64 p1.High]], 0⟩, ⟨51, 2, [.agg [.vs 1 (List.map (PV.int .u8) x3.1.l), .int .i64 x3.1.at_]], 0⟩, ⟨24, 2, [.agg [.int .i64 x3.2.Span.Low, .int .i64 x3.2.Span.High]], 0⟩])] rfl rfl rfl (congrArg PV.bool c11) (all1 (VRd.ntl (rd_loadN (ds := [.int .i64 x3.2.Span.Low, .int .i64 x3.2.Span.High]) rfl (getO_N rfl rfl) rfl ta_24 ts_24 rfl rfl rfl)) all0) ?_
            refine dops_takeW [(low, [⟨24, 2, [.agg [.int .i64 p1.Low, .int .i64 p1.High]], 0⟩, ⟨51, 2, [.agg [.vs 1 (List.map (PV.int .u8) x3.1.l), .int .i64 x3.1.at_]], 0⟩, ⟨24, 2, [.agg [.int .i64 x3.2.Span.Low, .int .i64 x3.2.Span.High]], 0⟩])] rfl rfl rfl (congrArg PV.bool c11) (all1 (VRd.ntl (rd_mvI rfl)) all0) ?_
            refine dops_takeW [(low, [⟨24, 2, [.agg [.int .i64 p1.Low, .int .i64 p1.High]], 0⟩, ⟨51, 2, [.agg [.vs 1 (List.map (PV.int .u8) x3.1.l), .int .i64 x3.1.at_]], 0⟩, ⟨24, 2, [.agg [.int .i64 x3.2.Span.Low, .int .i64 x3.2.Span.High]], 0⟩])] rfl rfl rfl (congrArg PV.bool c11) (all1 (nt_of (vef_callP rfl Try.call12 (F_ref06_Above_ok h15 _))) all0) ?_
            refine dops_takeW [(low, [⟨24, 2, [.agg [.int .i64 p1.Low, .int .i64 p1.High]], 0⟩, ⟨51, 2, [.agg [.vs 1 (List.map (PV.int .u8) x3.1.l), .int .i64 x3.1.at_]], 0⟩, ⟨24, 2, [.agg [.int .i64 x3.2.Span.Low, .int .i64 x3.2.Span.High]], 0⟩])] rfl rfl rfl (congrArg PV.bool c11) (all1 (VRd.ntl (rd_eql rfl rfl)) all0) ?_
            refine dops_rdW [(low, [⟨24, 2, [.agg [.int .i64 p1.Low, .int .i64 p1.High]], 0⟩, ⟨51, 2, [.agg [.vs 1 (List.map (PV.int .u8) x3.1.l), .int .i64 x3.1.at_]], 0⟩, ⟨24, 2, [.agg [.int .i64 x3.2.Span.Low, .int .i64 x3.2.Span.High]], 0⟩])] rfl rfl (all1 (VRd.ntl (rd_pickT (congrArg PV.bool c11) rfl)) all0) ?_
            refine dops_rdW [(low, [⟨24, 2, [.agg [.int .i64 p1.Low, .int .i64 p1.High]], 0⟩, ⟨51, 2, [.agg [.vs 1 (List.map (PV.int .u8) x3.1.l), .int .i64 x3.1.at_]], 0⟩, ⟨24, 2, [.agg [.int .i64 x3.2.Span.Low, .int .i64 x3.2.Span.High]], 0⟩])] rfl rfl (all1 (VRd.ntl (rd_mvB rfl)) all0) ?_
            refine dops_takeW [(low, [⟨24, 2, [.agg [.int .i64 p1.Low, .int .i64 p1.High]], 0⟩, ⟨51, 2, [.agg [.vs 1 (List.map (PV.int .u8) x3.1.l), .int .i64 x3.1.at_]], 0⟩, ⟨24, 2, [.agg [.int .i64 x3.2.Span.Low, .int .i64 x3.2.Span.High]], 0⟩])] rfl rfl rfl (congrArg PV.bool c16) (all1 (VRd.ntl (rd_loadN (ds := [.int .i64 x3.2.Span.Low, .int .i64 x3.2.Span.High]) rfl (getO_N rfl rfl) rfl ta_24 ts_24 rfl rfl rfl)) all0) ?_
            refine dops_takeW [(low, [⟨24, 2, [.agg [.int .i64 p1.Low, .int .i64 p1.High]], 0⟩, ⟨51, 2, [.agg [.vs 1 (List.map (PV.int .u8) x3.1.l), .int .i64 x3.1.at_]], 0⟩, ⟨24, 2, [.agg [.int .i64 x3.2.Span.Low, .int .i64 x3.2.Span.High]], 0⟩])] rfl rfl rfl (congrArg PV.bool c16) (all1 (VRd.ntl (rd_fieldAddr rfl tf_24_0 ts_3 (by decide))) all0) ?_
            refine dops_takeW [(low, [⟨24, 2, [.agg [.int .i64 p1.Low, .int .i64 p1.High]], 0⟩, ⟨51, 2, [.agg [.vs 1 (List.map (PV.int .u8) x3.1.l), .int .i64 x3.1.at_]], 0⟩, ⟨24, 2, [.agg [.int .i64 x3.2.Span.Low, .int .i64 x3.2.Span.High]], 0⟩])] rfl rfl rfl (congrArg PV.bool c16) (all1 (VRd.ntl (rd_load1 rfl (getO_N rfl rfl) rfl ta_3 rfl)) all0) ?_
            refine dops_takeW [(low, [⟨24, 2, [.agg [.int .i64 p1.Low, .int .i64 p1.High]], 0⟩, ⟨51, 2, [.agg [.vs 1 (List.map (PV.int .u8) x3.1.l), .int .i64 x3.1.at_]], 0⟩, ⟨24, 2, [.agg [.int .i64 x3.2.Span.Low, .int .i64 x3.2.Span.High]], 0⟩])] rfl rfl rfl (congrArg PV.bool c16) (all1 (nt_of (vef_callP rfl Try.call11 (F_window_Above_ok h18 _))) all0) ?_
            refine dops_takeW [(low, [⟨24, 2, [.agg [.int .i64 p1.Low, .int .i64 p1.High]], 0⟩, ⟨51, 2, [.agg [.vs 1 (List.map (PV.int .u8) x3.1.l), .int .i64 x3.1.at_]], 0⟩, ⟨24, 2, [.agg [.int .i64 x3.2.Span.Low, .int .i64 x3.2.Span.High]], 0⟩])] rfl rfl rfl (congrArg PV.bool c16) (all1 (VRd.ntl (rd_loadN (ds := [.int .i64 x3.2.Span.Low, .int .i64 x3.2.Span.High]) rfl (getO_N rfl rfl) rfl ta_24 ts_24 rfl rfl rfl)) all0) ?_
            refine dops_takeW [(low, [⟨24, 2, [.agg [.int .i64 p1.Low, .int .i64 p1.High]], 0⟩, ⟨51, 2, [.agg [.vs 1 (List.map (PV.int .u8) x3.1.l), .int .i64 x3.1.at_]], 0⟩, ⟨24, 2, [.agg [.int .i64 x3.2.Span.Low, .int .i64 x3.2.Span.High]], 0⟩])] rfl rfl rfl (congrArg PV.bool c16) (all1 (VRd.ntl (rd_fieldAddr rfl tf_24_0 ts_3 (by decide))) all0) ?_
            refine dops_takeW [(low, [⟨24, 2, [.agg [.int .i64 p1.Low, .int .i64 p1.High]], 0⟩, ⟨51, 2, [.agg [.vs 1 (List.map (PV.int .u8) x3.1.l), .int .i64 x3.1.at_]], 0⟩, ⟨24, 2, [.agg [.int .i64 x3.2.Span.Low, .int .i64 x3.2.Span.High]], 0⟩])] rfl rfl rfl (congrArg PV.bool c16) (all1 (VRd.ntl (rd_load1 rfl (getO_N rfl rfl) rfl ta_3 rfl)) all0) ?_
            refine dops_takeW [(low, [⟨24, 2, [.agg [.int .i64 p1.Low, .int .i64 p1.High]], 0⟩, ⟨51, 2, [.agg [.vs 1 (List.map (PV.int .u8) x3.1.l), .int .i64 x3.1.at_]], 0⟩, ⟨24, 2, [.agg [.int .i64 x3.2.Span.Low, .int .i64 x3.2.Span.High]], 0⟩])] rfl rfl rfl (congrArg PV.bool c16) (all1 (nt_of (vef_callP rfl Try.call12 (F_ref06_Above_ok h20 _))) all0) ?_
            refine dops_takeW [(low, [⟨24, 2, [.agg [.int .i64 p1.Low, .int .i64 p1.High]], 0⟩, ⟨51, 2, [.agg [.vs 1 (List.map (PV.int .u8) x3.1.l), .int .i64 x3.1.at_]], 0⟩, ⟨24, 2, [.agg [.int .i64 x3.2.Span.Low, .int .i64 x3.2.Span.High]], 0⟩])] rfl rfl rfl (congrArg PV.bool c16) (all1 (VRd.ntl (rd_eql rfl rfl)) all0) ?_
            refine dops_rdW [(low, [⟨24, 2, [.agg [.int .i64 p1.Low, .int .i64 p1.High]], 0⟩, ⟨51, 2, [.agg [.vs 1 (List.map (PV.int .u8) x3.1.l), .int .i64 x3.1.at_]], 0⟩, ⟨24, 2, [.agg [.int .i64 x3.2.Span.Low, .int .i64 x3.2.Span.High]], 0⟩])] rfl rfl (all1 (VRd.ntl (rd_pickT (congrArg PV.bool c16) rfl)) all0) ?_
            refine dops_rdW [(low, [⟨24, 2, [.agg [.int .i64 p1.Low, .int .i64 p1.High]], 0⟩, ⟨51, 2, [.agg [.vs 1 (List.map (PV.int .u8) x3.1.l), .int .i64 x3.1.at_]], 0⟩, ⟨24, 2, [.agg [.int .i64 x3.2.Span.Low, .int .i64 x3.2.Span.High]], 0⟩])] rfl rfl (all1 (VRd.ntl (rd_mvB rfl)) all0) ?_
            refine dops_takeW [(low, [⟨24, 2, [.agg [.int .i64 p1.Low, .int .i64 p1.High]], 0⟩, ⟨51, 2, [.agg [.vs 1 (List.map (PV.int .u8) x3.1.l), .int .i64 x3.1.at_]], 0⟩, ⟨24, 2, [.agg [.int .i64 x3.2.Span.Low, .int .i64 x3.2.Span.High]], 0⟩])] rfl rfl rfl (congrArg PV.bool c21) (all1 (VRd.ntl (rd_loadN (ds := [.int .i64 x3.2.Span.Low, .int .i64 x3.2.Span.High]) rfl (getO_N rfl rfl) rfl ta_24 ts_24 rfl rfl rfl)) all0) ?_
            refine dops_takeW [(low, [⟨24, 2, [.agg [.int .i64 p1.Low, .int .i64 p1.High]], 0⟩, ⟨51, 2, [.agg [.vs 1 (List.map (PV.int .u8) x3.1.l), .int .i64 x3.1.at_]], 0⟩, ⟨24, 2, [.agg [.int .i64 x3.2.Span.Low, .int .i64 x3.2.Span.High]], 0⟩])] rfl rfl rfl (congrArg PV.bool c21) (all1 (VRd.ntl (rd_fieldAddr rfl tf_24_1 ts_3 (by decide))) all0) ?_
            refine dops_takeW [(low, [⟨24, 2, [.agg [.int .i64 p1.Low, .int .i64 p1.High]], 0⟩, ⟨51, 2, [.agg [.vs 1 (List.map (PV.int .u8) x3.1.l), .int .i64 x3.1.at_]], 0⟩, ⟨24, 2, [.agg [.int .i64 x3.2.Span.Low, .int .i64 x3.2.Span.High]], 0⟩])] rfl rfl rfl (congrArg PV.bool c21) (all1 (VRd.ntl (rd_load1 rfl (getO_N rfl rfl) rfl ta_3 rfl)) all0) ?_
            refine dops_takeW [(low, [⟨24, 2, [.agg [.int .i64 p1.Low, .int .i64 p1.High]], 0⟩, ⟨51, 2, [.agg [.vs 1 (List.map (PV.int .u8) x3.1.l), .int .i64 x3.1.at_]], 0⟩, ⟨24, 2, [.agg [.int .i64 x3.2.Span.Low, .int .i64 x3.2.Span.High]], 0⟩])] rfl rfl rfl (congrArg PV.bool c21) (all1 (nt_of (vef_callP rfl Try.call11 (F_window_Above_ok h23 _))) all0) ?_
            refine dops_takeW [(low, [⟨24, 2, [.agg [.int .i64 p1.Low, .int .i64 p1.High]], 0⟩, ⟨51, 2, [.agg [.vs 1 (List.map (PV.int .u8) x3.1.l), .int .i64 x3.1.at_]], 0⟩, ⟨24, 2, [.agg [.int .i64 x3.2.Span.Low, .int .i64 x3.2.Span.High]], 0⟩])] rfl rfl rfl (congrArg PV.bool c21) (all1 (VRd.ntl (rd_loadN (ds := [.int .i64 x3.2.Span.Low, .int .i64 x3.2.Span.High]) rfl (getO_N rfl rfl) rfl ta_24 ts_24 rfl rfl rfl)) all0) ?_
            refine dops_takeW [(low, [⟨24, 2, [.agg [.int .i64 p1.Low, .int .i64 p1.High]], 0⟩, ⟨51, 2, [.agg [.vs 1 (List.map (PV.int .u8) x3.1.l), .int .i64 x3.1.at_]], 0⟩, ⟨24, 2, [.agg [.int .i64 x3.2.Span.Low, .int .i64 x3.2.Span.High]], 0⟩])] rfl rfl rfl (congrArg PV.bool c21) (all1 (VRd.ntl (rd_fieldAddr rfl tf_24_1 ts_3 (by decide))) all0) ?_
            refine dops_takeW [(low, [⟨24, 2, [.agg [.int .i64 p1.Low, .int .i64 p1.High]], 0⟩, ⟨51, 2, [.agg [.vs 1 (List.map (PV.int .u8) x3.1.l), .int .i64 x3.1.at_]], 0⟩, ⟨24, 2, [.agg [.int .i64 x3.2.Span.Low, .int .i64 x3.2.Span.High]], 0⟩])] rfl rfl rfl (congrArg PV.bool c21) (all1 (VRd.ntl (rd_load1 rfl (getO_N rfl rfl) rfl ta_3 rfl)) all0) ?_
            refine dops_takeW [(low, [⟨24, 2, [.agg [.int .i64 p1.Low, .int .i64 p1.High]], 0⟩, ⟨51, 2, [.agg [.vs 1 (List.map (PV.int .u8) x3.1.l), .int .i64 x3.1.at_]], 0⟩, ⟨24, 2, [.agg [.int .i64 x3.2.Span.Low, .int .i64 x3.2.Span.High]], 0⟩])] rfl rfl rfl (congrArg PV.bool c21) (all1 (nt_of (vef_callP rfl Try.call12 (F_ref06_Above_ok h25 _))) all0) ?_
            refine dops_takeW [(low, [⟨24, 2, [.agg [.int .i64 p1.Low, .int .i64 p1.High]], 0⟩, ⟨51, 2, [.agg [.vs 1 (List.map (PV.int .u8) x3.1.l), .int .i64 x3.1.at_]], 0⟩, ⟨24, 2, [.agg [.int .i64 x3.2.Span.Low, .int .i64 x3.2.Span.High]], 0⟩])] rfl rfl rfl (congrArg PV.bool c21) (all1 (VRd.ntl (rd_eql rfl rfl)) all0) ?_
            refine dops_rdW [(low, [⟨24, 2, [.agg [.int .i64 p1.Low, .int .i64 p1.High]], 0⟩, ⟨51, 2, [.agg [.vs 1 (List.map (PV.int .u8) x3.1.l), .int .i64 x3.1.at_]], 0⟩, ⟨24, 2, [.agg [.int .i64 x3.2.Span.Low, .int .i64 x3.2.Span.High]], 0⟩])] rfl rfl (all1 (VRd.ntl (rd_pickT (congrArg PV.bool c21) rfl)) all0) ?_
            refine dops_rdW [(low, [⟨24, 2, [.agg [.int .i64 p1.Low, .int .i64 p1.High]], 0⟩, ⟨51, 2, [.agg [.vs 1 (List.map (PV.int .u8) x3.1.l), .int .i64 x3.1.at_]], 0⟩, ⟨24, 2, [.agg [.int .i64 x3.2.Span.Low, .int .i64 x3.2.Span.High]], 0⟩])] rfl rfl (all1 (VRd.ntl (rd_mvB rfl)) all0) ?_
            refine dops_takeW [(low, [⟨24, 2, [.agg [.int .i64 p1.Low, .int .i64 p1.High]], 0⟩, ⟨51, 2, [.agg [.vs 1 (List.map (PV.int .u8) x3.1.l), .int .i64 x3.1.at_]], 0⟩, ⟨24, 2, [.agg [.int .i64 x3.2.Span.Low, .int .i64 x3.2.Span.High]], 0⟩])] rfl rfl rfl (congrArg PV.bool c26) (all1 (nt_of (vef_callP rfl Try.call13 (F_law06_awake_ok h28 _))) all0) ?_
            refine dops_rdW [(low, [⟨24, 2, [.agg [.int .i64 p1.Low, .int .i64 p1.High]], 0⟩, ⟨51, 2, [.agg [.vs 1 (List.map (PV.int .u8) x3.1.l), .int .i64 x3.1.at_]], 0⟩, ⟨24, 2, [.agg [.int .i64 x3.2.Span.Low, .int .i64 x3.2.Span.High]], 0⟩])] rfl rfl (all1 (VRd.ntl (rd_pickT (congrArg PV.bool c26) rfl)) all0) ?_
            refine dops_rdW [(low, [⟨24, 2, [.agg [.int .i64 p1.Low, .int .i64 p1.High]], 0⟩, ⟨51, 2, [.agg [.vs 1 (List.map (PV.int .u8) x3.1.l), .int .i64 x3.1.at_]], 0⟩, ⟨24, 2, [.agg [.int .i64 x3.2.Span.Low, .int .i64 x3.2.Span.High]], 0⟩])] rfl rfl (all1 (VRd.ntl (rd_asB rfl)) all0) ?_
            refine dops_nil ?_
            refine vwp_ret ?_
            obtain rfl := Option.some.inj hF
            refine fnR ?_
            exact weak_pick rfl [] (by decide) ⟨rn_low rfl (.bool _), trivial⟩ trivial
          · have hF := bifF c26 hF
            refine vwp_drawn [[], [], [0, 1], [], [], [0, 1, 2, 3, 4], [0, 1, 2, 3, 4, 5], [0, 1, 2, 3, 4, 5, 6], [0, 1, 2, 3, 4, 5, 6, 7], [0, 1, 2, 3, 4, 5, 6, 7], [0, 1, 2, 3, 4, 5, 6, 7, 8, 9], [0, 1, 2, 3, 4, 5, 6, 7], [0, 1, 2, 3, 4, 5, 6, 7], [0, 1, 2, 3, 4, 5, 6, 7, 8, 9, 10, 11, 12], [0, 1, 2, 3, 4, 5, 6, 7, 8, 9, 10, 11, 12, 13], [0, 1, 2, 3, 4, 5, 6, 7, 8, 9, 10, 11, 12, 13, 14], [0, 1, 2, 3, 4, 5, 6, 7, 8, 9, 10, 11, 12, 13, 14, 15], [0, 1, 2, 3, 4, 5, 6, 7, 8, 9, 10, 11, 12, 13, 14, 15, 16], [0, 1, 2, 3, 4, 5, 6, 7, 8, 9, 10, 11, 12, 13, 14, 15, 16], [0, 1, 2, 3, 4, 5, 6, 7, 8, 9, 10, 11, 12, 13, 14, 15, 16, 18], [0, 1, 2, 3, 4, 5, 6, 7, 8, 9, 10, 11, 12, 13, 14, 15, 16, 17, 18, 19], [0, 1, 2, 3, 4, 5, 6, 7, 8, 9, 10, 11, 12, 13, 14, 15, 16], [0, 1, 2, 3, 4, 5, 6, 7, 8, 9, 10, 11, 12, 13, 14, 15, 16], [0, 1, 2, 3, 4, 5, 6, 7, 8, 9, 10, 11, 12, 13, 14, 15, 16, 22], [0, 1, 2, 3, 4, 5, 6, 7, 8, 9, 10, 11, 12, 13, 14, 15, 16, 17, 18, 19, 20, 21, 22, 23], [0, 1, 2, 3, 4, 5, 6, 7, 8, 9, 10, 11, 12, 13, 14, 15, 16, 17, 18, 19, 20, 21, 22, 23, 24], [0, 1, 2, 3, 4, 5, 6, 7, 8, 9, 10, 11, 12, 13, 14, 15, 16, 17, 18, 19, 20, 21, 22, 23, 24, 25], [0, 1, 2, 3, 4, 5, 6, 7, 8, 9, 10, 11, 12, 13, 14, 15, 16, 17, 18, 19, 20, 21, 22, 23, 24, 25, 26], [0, 1, 2, 3, 4, 5, 6, 7, 8, 9, 10, 11, 12, 13, 14, 15, 16, 17, 18, 19, 20, 21, 22, 23, 24, 25, 26, 27], [0, 1, 2, 3, 4, 5, 6, 7, 8, 9, 10, 11, 12, 13, 14, 15, 16, 17, 18, 19, 20, 21, 22, 23, 24, 25, 26, 27], [0, 1, 2, 3, 4, 5, 6, 7, 8, 9, 10, 11, 12, 13, 14, 15, 16, 17, 18, 19, 20, 21, 22, 23, 24, 25, 26, 27, 29], [0, 1, 2, 3, 4, 5, 6, 7, 8, 9, 10, 11, 12, 13, 14, 15, 16, 17, 18, 19, 20, 21, 22, 23, 24, 25, 26, 27, 28, 29, 30], [0, 1, 2, 3, 4, 5, 6, 7, 8, 9, 10, 11, 12, 13, 14, 15, 16, 17, 18, 19, 20, 21, 22, 23, 24, 25, 26, 27], [0, 1, 2, 3, 4, 5, 6, 7, 8, 9, 10, 11, 12, 13, 14, 15, 16, 17, 18, 19, 20, 21, 22, 23, 24, 25, 26, 27], [0, 1, 2, 3, 4, 5, 6, 7, 8, 9, 10, 11, 12, 13, 14, 15, 16, 17, 18, 19, 20, 21, 22, 23, 24, 25, 26, 27, 33], [0, 1, 2, 3, 4, 5, 6, 7, 8, 9, 10, 11, 12, 13, 14, 15, 16, 17, 18, 19, 20, 21, 22, 23, 24, 25, 26, 27, 28, 29, 30, 31, 32, 33, 34], [0, 1, 2, 3, 4, 5, 6, 7, 8, 9, 10, 11, 12, 13, 14, 15, 16, 17, 18, 19, 20, 21, 22, 23, 24, 25, 26, 27, 28, 29, 30, 31, 32, 33, 34, 35], [0, 1, 2, 3, 4, 5, 6, 7, 8, 9, 10, 11, 12, 13, 14, 15, 16, 17, 18, 19, 20, 21, 22, 23, 24, 25, 26, 27, 28, 29, 30, 31, 32, 33, 34, 35, 36], [0, 1, 2, 3, 4, 5, 6, 7, 8, 9, 10, 11, 12, 13, 14, 15, 16, 17, 18, 19, 20, 21, 22, 23, 24, 25, 26, 27, 28, 29, 30, 31, 32, 33, 34, 35, 36, 37], [0, 1, 2, 3, 4, 5, 6, 7, 8, 9, 10, 11, 12, 13, 14, 15, 16, 17, 18, 19, 20, 21, 22, 23, 24, 25, 26, 27, 28, 29, 30, 31, 32, 33, 34, 35, 36, 37, 38], [0, 1, 2, 3, 4, 5, 6, 7, 8, 9, 10, 11, 12, 13, 14, 15, 16, 17, 18, 19, 20, 21, 22, 23, 24, 25, 26, 27, 28, 29, 30, 31, 32, 33, 34, 35, 36, 37, 38, 39], [0, 1, 2, 3, 4, 5, 6, 7, 8, 9, 10, 11, 12, 13, 14, 15, 16, 17, 18, 19, 20, 21, 22, 23, 24, 25, 26, 27, 28, 29, 30, 31, 32, 33, 34, 35, 36, 37, 38, 39, 40]] [false, false, false, false, false, false, false, false, false, false, false, false, false, false, false, false, false, false, false, false, false, false, false, false, false, false, false, false, false, false, false, false, false, false, false, false, false, false, false, false, false, false] [(low, [⟨24, 2, [.agg [.int .i64 p1.Low, .int .i64 p1.High]], 0⟩, ⟨51, 2, [.agg [.vs 1 (List.map (PV.int .u8) x3.1.l), .int .i64 x3.1.at_]], 0⟩, ⟨24, 2, [.agg [.int .i64 x3.2.Span.Low, .int .i64 x3.2.Span.High]], 0⟩])] mixed (by kernel_rfl) rfl (lenAll (all1 rfl all0)) rfl (low, [⟨24, 2, [.agg [.int .i64 p1.Low, .int .i64 p1.High]], 0⟩, ⟨51, 2, [.agg [.vs 1 (List.map (PV.int .u8) x3.1.l), .int .i64 x3.1.at_]], 0⟩, ⟨24, 2, [.agg [.int .i64 x3.2.Span.Low, .int .i64 x3.2.Span.High]], 0⟩]) rfl rfl ?_
            refine dops_rdW [(low, [⟨24, 2, [.agg [.int .i64 p1.Low, .int .i64 p1.High]], 0⟩, ⟨51, 2, [.agg [.vs 1 (List.map (PV.int .u8) x3.1.l), .int .i64 x3.1.at_]], 0⟩, ⟨24, 2, [.agg [.int .i64 x3.2.Span.Low, .int .i64 x3.2.Span.High]], 0⟩])] rfl rfl (all1 (VRd.ntl (rd_loadN (ds := [.int .i64 p1.Low, .int .i64 p1.High]) rfl (getO_N rfl rfl) rfl ta_24 ts_24 rfl rfl rfl)) all0) ?_
            refine dops_rdW [(low, [⟨24, 2, [.agg [.int .i64 p1.Low, .int .i64 p1.High]], 0⟩, ⟨51, 2, [.agg [.vs 1 (List.map (PV.int .u8) x3.1.l), .int .i64 x3.1.at_]], 0⟩, ⟨24, 2, [.agg [.int .i64 x3.2.Span.Low, .int .i64 x3.2.Span.High]], 0⟩])] rfl rfl (all1 (VRd.ntl (rd_mvI rfl)) all0) ?_
            refine dops_rdW [(low, [⟨24, 2, [.agg [.int .i64 p1.Low, .int .i64 p1.High]], 0⟩, ⟨51, 2, [.agg [.vs 1 (List.map (PV.int .u8) x3.1.l), .int .i64 x3.1.at_]], 0⟩, ⟨24, 2, [.agg [.int .i64 x3.2.Span.Low, .int .i64 x3.2.Span.High]], 0⟩])] rfl rfl (all1 (nt_of (vef_callP rfl Try.call11 (F_window_Above_ok h8 _))) all0) ?_
            refine dops_rdW [(low, [⟨24, 2, [.agg [.int .i64 p1.Low, .int .i64 p1.High]], 0⟩, ⟨51, 2, [.agg [.vs 1 (List.map (PV.int .u8) x3.1.l), .int .i64 x3.1.at_]], 0⟩, ⟨24, 2, [.agg [.int .i64 x3.2.Span.Low, .int .i64 x3.2.Span.High]], 0⟩])] rfl rfl (all1 (VRd.ntl (rd_loadN (ds := [.int .i64 p1.Low, .int .i64 p1.High]) rfl (getO_N rfl rfl) rfl ta_24 ts_24 rfl rfl rfl)) all0) ?_
            refine dops_rdW [(low, [⟨24, 2, [.agg [.int .i64 p1.Low, .int .i64 p1.High]], 0⟩, ⟨51, 2, [.agg [.vs 1 (List.map (PV.int .u8) x3.1.l), .int .i64 x3.1.at_]], 0⟩, ⟨24, 2, [.agg [.int .i64 x3.2.Span.Low, .int .i64 x3.2.Span.High]], 0⟩])] rfl rfl (all1 (VRd.ntl (rd_mvI rfl)) all0) ?_
            refine dops_rdW [(low, [⟨24, 2, [.agg [.int .i64 p1.Low, .int .i64 p1.High]], 0⟩, ⟨51, 2, [.agg [.vs 1 (List.map (PV.int .u8) x3.1.l), .int .i64 x3.1.at_]], 0⟩, ⟨24, 2, [.agg [.int .i64 x3.2.Span.Low, .int .i64 x3.2.Span.High]], 0⟩])] rfl rfl (all1 (nt_of (vef_callP rfl Try.call12 (F_ref06_Above_ok h10 _))) all0) ?_
            refine dops_rdW [(low, [⟨24, 2, [.agg [.int .i64 p1.Low, .int .i64 p1.High]], 0⟩, ⟨51, 2, [.agg [.vs 1 (List.map (PV.int .u8) x3.1.l), .int .i64 x3.1.at_]], 0⟩, ⟨24, 2, [.agg [.int .i64 x3.2.Span.Low, .int .i64 x3.2.Span.High]], 0⟩])] rfl rfl (all1 (VRd.ntl (rd_eql rfl rfl)) all0) ?_
            refine dops_rdW [(low, [⟨24, 2, [.agg [.int .i64 p1.Low, .int .i64 p1.High]], 0⟩, ⟨51, 2, [.agg [.vs 1 (List.map (PV.int .u8) x3.1.l), .int .i64 x3.1.at_]], 0⟩, ⟨24, 2, [.agg [.int .i64 x3.2.Span.Low, .int .i64 x3.2.Span.High]], 0⟩])] rfl rfl (all1 (VRd.ntl (rd_mvB rfl)) all0) ?_
            refine dops_takeW [(low, [⟨24, 2, [.agg [.int .i64 p1.Low, .int .i64 p1.High]], 0⟩, ⟨51, 2, [.agg [.vs 1 (List.map (PV.int .u8) x3.1.l), .int .i64 x3.1.at_]], 0⟩, ⟨24, 2, [.agg [.int .i64 x3.2.Span.Low, .int .i64 x3.2.Span.High]], 0⟩])] rfl rfl rfl (congrArg PV.bool c11) (all1 (VRd.ntl (rd_loadN (ds := [.int .i64 x3.2.Span.Low, .int .i64 x3.2.Span.High]) rfl (getO_N rfl rfl) rfl ta_24 ts_24 rfl rfl rfl)) all0) ?_
            refine dops_takeW [(low, [⟨24, 2, [.agg [.int .i64 p1.Low, .int .i64 p1.High]], 0⟩, ⟨51, 2, [.agg [.vs 1 (List.map (PV.int .u8) x3.1.l), .int .i64 x3.1.at_]], 0⟩, ⟨24, 2, [.agg [.int .i64 x3.2.Span.Low, .int .i64 x3.2.Span.High]], 0⟩])] rfl rfl rfl (congrArg PV.bool c11) (all1 (VRd.ntl (rd_mvI rfl)) all0) ?_
            refine dops_takeW [(low, [⟨24, 2, [.agg [.int .i64 p1.Low, .int .i64 p1.High]], 0⟩, ⟨51, 2, [.agg [.vs 1 (List.map (PV.int .u8) x3.1.l), .int .i64 x3.1.at_]], 0⟩, ⟨24, 2, [.agg [.int .i64 x3.2.Span.Low, .int .i64 x3.2.Span.High]], 0⟩])] rfl rfl rfl (congrArg PV.bool c11) (all1 (nt_of (vef_callP rfl Try.call11 (F_window_Above_ok h13 _))) all0) ?_
            refine dops_takeW [(low, [⟨24, 2, [.agg [.int .i64 p1.Low, .int .i64 p1.High]], 0⟩, ⟨51, 2, [.agg [.vs 1 (List.map (PV.int .u8) x3.1.l), .int .i64 x3.1.at_]], 0⟩, ⟨24, 2, [.agg [.int .i64 x3.2.Span.Low, .int .i64 x3.2.Span.High]], 0⟩])] rfl rfl rfl (congrArg PV.bool c11) (all1 (VRd.ntl (rd_loadN (ds := [.int .i64 x3.2.Span.Low, .int .i64 x3.2.Span.High]) rfl (getO_N rfl rfl) rfl ta_24 ts_24 rfl rfl rfl)) all0) ?_
            refine dops_takeW [(low, [⟨24, 2, [.agg [.int .i64 p1.Low, .int .i64 p1.High]], 0⟩, ⟨51, 2, [.agg [.vs 1 (List.map (PV.int .u8) x3.1.l), .int .i64 x3.1.at_]], 0⟩, ⟨24, 2, [.agg [.int .i64 x3.2.Span.Low, .int .i64 x3.2.Span.High]], 0⟩])] rfl rfl rfl (congrArg PV.bool c11) (all1 (VRd.ntl (rd_mvI rfl)) all0) ?_
            refine dops_takeW [(low, [⟨24, 2, [.agg [.int .i64 p1.Low, .int .i64 p1.High]], 0⟩, ⟨51, 2, [.agg [.vs 1 (List.map (PV.int .u8) x3.1.l), .int .i64 x3.1.at_]], 0⟩, ⟨24, 2, [.agg [.int .i64 x3.2.Span.Low, .int .i64 x3.2.Span.High]], 0⟩])] rfl rfl rfl (congrArg PV.bool c11) (all1 (nt_of (vef_callP rfl Try.call12 (F_ref06_Above_ok h15 _))) all0) ?_
            refine dops_takeW [(low, [⟨24, 2, [.agg [.int .i64 p1.Low, .int .i64 p1.High]], 0⟩, ⟨51, 2, [.agg [.vs 1 (List.map (PV.int .u8) x3.1.l), .int .i64 x3.1.at_]], 0⟩, ⟨24, 2, [.agg [.int .i64 x3.2.Span.Low, .int .i64 x3.2.Span.High]], 0⟩])] rfl rfl rfl (congrArg PV.bool c11) (all1 (VRd.ntl (rd_eql rfl rfl)) all0) ?_
            refine dops_rdW [(low, [⟨24, 2, [.agg [.int .i64 p1.Low, .int .i64 p1.High]], 0⟩, ⟨51, 2, [.agg [.vs 1 (List.map (PV.int .u8) x3.1.l), .int .i64 x3.1.at_]], 0⟩, ⟨24, 2, [.agg [.int .i64 x3.2.Span.Low, .int .i64 x3.2.Span.High]], 0⟩])] rfl rfl (all1 (VRd.ntl (rd_pickT (congrArg PV.bool c11) rfl)) all0) ?_
            refine dops_rdW [(low, [⟨24, 2, [.agg [.int .i64 p1.Low, .int .i64 p1.High]], 0⟩, ⟨51, 2, [.agg [.vs 1 (List.map (PV.int .u8) x3.1.l), .int .i64 x3.1.at_]], 0⟩, ⟨24, 2, [.agg [.int .i64 x3.2.Span.Low, .int .i64 x3.2.Span.High]], 0⟩])] rfl rfl (all1 (VRd.ntl (rd_mvB rfl)) all0) ?_
            refine dops_takeW [(low, [⟨24, 2, [.agg [.int .i64 p1.Low, .int .i64 p1.High]], 0⟩, ⟨51, 2, [.agg [.vs 1 (List.map (PV.int .u8) x3.1.l), .int .i64 x3.1.at_]], 0⟩, ⟨24, 2, [.agg [.int .i64 x3.2.Span.Low, .int .i64 x3.2.Span.High]], 0⟩])] rfl rfl rfl (congrArg PV.bool c16) (all1 (VRd.ntl (rd_loadN (ds := [.int .i64 x3.2.Span.Low, .int .i64 x3.2.Span.High]) rfl (getO_N rfl rfl) rfl ta_24 ts_24 rfl rfl rfl)) all0) ?_
            refine dops_takeW [(low, [⟨24, 2, [.agg [.int .i64 p1.Low, .int .i64 p1.High]], 0⟩, ⟨51, 2, [.agg [.vs 1 (List.map (PV.int .u8) x3.1.l), .int .i64 x3.1.at_]], 0⟩, ⟨24, 2, [.agg [.int .i64 x3.2.Span.Low, .int .i64 x3.2.Span.High]], 0⟩])] rfl rfl rfl (congrArg PV.bool c16) (all1 (VRd.ntl (rd_fieldAddr rfl tf_24_0 ts_3 (by decide))) all0) ?_
            refine dops_takeW [(low, [⟨24, 2, [.agg [.int .i64 p1.Low, .int .i64 p1.High]], 0⟩, ⟨51, 2, [.agg [.vs 1 (List.map (PV.int .u8) x3.1.l), .int .i64 x3.1.at_]], 0⟩, ⟨24, 2, [.agg [.int .i64 x3.2.Span.Low, .int .i64 x3.2.Span.High]], 0⟩])] rfl rfl rfl (congrArg PV.bool c16) (all1 (VRd.ntl (rd_load1 rfl (getO_N rfl rfl) rfl ta_3 rfl)) all0) ?_
            refine dops_takeW [(low, [⟨24, 2, [.agg [.int .i64 p1.Low, .int .i64 p1.High]], 0⟩, ⟨51, 2, [.agg [.vs 1 (List.map (PV.int .u8) x3.1.l), .int .i64 x3.1.at_]], 0⟩, ⟨24, 2, [.agg [.int .i64 x3.2.Span.Low, .int .i64 x3.2.Span.High]], 0⟩])] rfl rfl rfl (congrArg PV.bool c16) (all1 (nt_of (vef_callP rfl Try.call11 (F_window_Above_ok h18 _))) all0) ?_
            refine dops_takeW [(low, [⟨24, 2, [.agg [.int .i64 p1.Low, .int .i64 p1.High]], 0⟩, ⟨51, 2, [.agg [.vs 1 (List.map (PV.int .u8) x3.1.l), .int .i64 x3.1.at_]], 0⟩, ⟨24, 2, [.agg [.int .i64 x3.2.Span.Low, .int .i64 x3.2.Span.High]], 0⟩])] rfl rfl rfl (congrArg PV.bool c16) (all1 (VRd.ntl (rd_loadN (ds := [.int .i64 x3.2.Span.Low, .int .i64 x3.2.Span.High]) rfl (getO_N rfl rfl) rfl ta_24 ts_24 rfl rfl rfl)) all0) ?_
            refine dops_takeW [(low, [⟨24, 2, [.agg [.int .i64 p1.Low, .int .i64 p1.High]], 0⟩, ⟨51, 2, [.agg [.vs 1 (List.map (PV.int .u8) x3.1.l), .int .i64 x3.1.at_]], 0⟩, ⟨24, 2, [.agg [.int .i64 x3.2.Span.Low, .int .i64 x3.2.Span.High]], 0⟩])] rfl rfl rfl (congrArg PV.bool c16) (all1 (VRd.ntl (rd_fieldAddr rfl tf_24_0 ts_3 (by decide))) all0) ?_
            refine dops_takeW [(low, [⟨24, 2, [.agg [.int .i64 p1.Low, .int .i64 p1.High]], 0⟩, ⟨51, 2, [.agg [.vs 1 (List.map (PV.int .u8) x3.1.l), .int .i64 x3.1.at_]], 0⟩, ⟨24, 2, [.agg [.int .i64 x3.2.Span.Low, .int .i64 x3.2.Span.High]], 0⟩])] rfl rfl rfl (congrArg PV.bool c16) (all1 (VRd.ntl (rd_load1 rfl (getO_N rfl rfl) rfl ta_3 rfl)) all0) ?_
            refine dops_takeW [(low, [⟨24, 2, [.agg [.int .i64 p1.Low, .int .i64 p1.High]], 0⟩, ⟨51, 2, [.agg [.vs 1 (List.map (PV.int .u8) x3.1.l), .int .i64 x3.1.at_]], 0⟩, ⟨24, 2, [.agg [.int .i64 x3.2.Span.Low, .int .i64 x3.2.Span.High]], 0⟩])] rfl rfl rfl (congrArg PV.bool c16) (all1 (nt_of (vef_callP rfl Try.call12 (F_ref06_Above_ok h20 _))) all0) ?_
            refine dops_takeW [(low, [⟨24, 2, [.agg [.int .i64 p1.Low, .int .i64 p1.High]], 0⟩, ⟨51, 2, [.agg [.vs 1 (List.map (PV.int .u8) x3.1.l), .int .i64 x3.1.at_]], 0⟩, ⟨24, 2, [.agg [.int .i64 x3.2.Span.Low, .int .i64 x3.2.Span.High]], 0⟩])] rfl rfl rfl (congrArg PV.bool c16) (all1 (VRd.ntl (rd_eql rfl rfl)) all0) ?_
            refine dops_rdW [(low, [⟨24, 2, [.agg [.int .i64 p1.Low, .int .i64 p1.High]], 0⟩, ⟨51, 2, [.agg [.vs 1 (List.map (PV.int .u8) x3.1.l), .int .i64 x3.1.at_]], 0⟩, ⟨24, 2, [.agg [.int .i64 x3.2.Span.Low, .int .i64 x3.2.Span.High]], 0⟩])] rfl rfl (all1 (VRd.ntl (rd_pickT (congrArg PV.bool c16) rfl)) all0) ?_
            refine dops_rdW [(low, [⟨24, 2, [.agg [.int .i64 p1.Low, .int .i64 p1.High]], 0⟩, ⟨51, 2, [.agg [.vs 1 (List.map (PV.int .u8) x3.1.l), .int .i64 x3.1.at_]], 0⟩, ⟨24, 2, [.agg [.int .i64 x3.2.Span.Low, .int .i64 x3.2.Span.High]], 0⟩])] rfl rfl (all1 (VRd.ntl (rd_mvB rfl)) all0) ?_
            refine dops_takeW [(low, [⟨24, 2, [.agg [.int .i64 p1.Low, .int .i64 p1.High]], 0⟩, ⟨51, 2, [.agg [.vs 1 (List.map (PV.int .u8) x3.1.l), .int .i64 x3.1.at_]], 0⟩, ⟨24, 2, [.agg [.int .i64 x3.2.Span.Low, .int .i64 x3.2.Span.High]], 0⟩])] rfl rfl rfl (congrArg PV.bool c21) (all1 (VRd.ntl (rd_loadN (ds := [.int .i64 x3.2.Span.Low, .int .i64 x3.2.Span.High]) rfl (getO_N rfl rfl) rfl ta_24 ts_24 rfl rfl rfl)) all0) ?_
            refine dops_takeW [(low, [⟨24, 2, [.agg [.int .i64 p1.Low, .int .i64 p1.High]], 0⟩, ⟨51, 2, [.agg [.vs 1 (List.map (PV.int .u8) x3.1.l), .int .i64 x3.1.at_]], 0⟩, ⟨24, 2, [.agg [.int .i64 x3.2.Span.Low, .int .i64 x3.2.Span.High]], 0⟩])] rfl rfl rfl (congrArg PV.bool c21) (all1 (VRd.ntl (rd_fieldAddr rfl tf_24_1 ts_3 (by decide))) all0) ?_
            refine dops_takeW [(low, [⟨24, 2, [.agg [.int .i64 p1.Low, .int .i64 p1.High]], 0⟩, ⟨51, 2, [.agg [.vs 1 (List.map (PV.int .u8) x3.1.l), .int .i64 x3.1.at_]], 0⟩, ⟨24, 2, [.agg [.int .i64 x3.2.Span.Low, .int .i64 x3.2.Span.High]], 0⟩])] rfl rfl rfl (congrArg PV.bool c21) (all1 (VRd.ntl (rd_load1 rfl (getO_N rfl rfl) rfl ta_3 rfl)) all0) ?_
            refine dops_takeW [(low, [⟨24, 2, [.agg [.int .i64 p1.Low, .int .i64 p1.High]], 0⟩, ⟨51, 2, [.agg [.vs 1 (List.map (PV.int .u8) x3.1.l), .int .i64 x3.1.at_]], 0⟩, ⟨24, 2, [.agg [.int .i64 x3.2.Span.Low, .int .i64 x3.2.Span.High]], 0⟩])] rfl rfl rfl (congrArg PV.bool c21) (all1 (nt_of (vef_callP rfl Try.call11 (F_window_Above_ok h23 _))) all0) ?_
            refine dops_takeW [(low, [⟨24, 2, [.agg [.int .i64 p1.Low, .int .i64 p1.High]], 0⟩, ⟨51, 2, [.agg [.vs 1 (List.map (PV.int .u8) x3.1.l), .int .i64 x3.1.at_]], 0⟩, ⟨24, 2, [.agg [.int .i64 x3.2.Span.Low, .int .i64 x3.2.Span.High]], 0⟩])] rfl rfl rfl (congrArg PV.bool c21) (all1 (VRd.ntl (rd_loadN (ds := [.int .i64 x3.2.Span.Low, .int .i64 x3.2.Span.High]) rfl (getO_N rfl rfl) rfl ta_24 ts_24 rfl rfl rfl)) all0) ?_
            refine dops_takeW [(low, [⟨24, 2, [.agg [.int .i64 p1.Low, .int .i64 p1.High]], 0⟩, ⟨51, 2, [.agg [.vs 1 (List.map (PV.int .u8) x3.1.l), .int .i64 x3.1.at_]], 0⟩, ⟨24, 2, [.agg [.int .i64 x3.2.Span.Low, .int .i64 x3.2.Span.High]], 0⟩])] rfl rfl rfl (congrArg PV.bool c21) (all1 (VRd.ntl (rd_fieldAddr rfl tf_24_1 ts_3 (by decide))) all0) ?_
            refine dops_takeW [(low, [⟨24, 2, [.agg [.int .i64 p1.Low, .int .i64 p1.High]], 0⟩, ⟨51, 2, [.agg [.vs 1 (List.map (PV.int .u8) x3.1.l), .int .i64 x3.1.at_]], 0⟩, ⟨24, 2, [.agg [.int .i64 x3.2.Span.Low, .int .i64 x3.2.Span.High]], 0⟩])] rfl rfl rfl (congrArg PV.bool c21) (all1 (VRd.ntl (rd_load1 rfl (getO_N rfl rfl) rfl ta_3 rfl)) all0) ?_
            refine dops_takeW [(low, [⟨24, 2, [.agg [.int .i64 p1.Low, .int .i64 p1.High]], 0⟩, ⟨51, 2, [.agg [.vs 1 (List.map (PV.int .u8) x3.1.l), .int .i64 x3.1.at_]], 0⟩, ⟨24, 2, [.agg [.int .i64 x3.2.Span.Low, .int .i64 x3.2.Span.High]], 0⟩])] rfl rfl rfl (congrArg PV.bool c21) (all1 (nt_of (vef_callP rfl Try.call12 (F_ref06_Above_ok h25 _))) all0) ?_
            refine dops_takeW [(low, [⟨24, 2, [.agg [.int .i64 p1.Low, .int .i64 p1.High]], 0⟩, ⟨51, 2, [.agg [.vs 1 (List.map (PV.int .u8) x3.1.l), .int .i64 x3.1.at_]], 0⟩, ⟨24, 2, [.agg [.int .i64 x3.2.Span.Low, .int .i64 x3.2.Span.High]], 0⟩])] rfl rfl rfl (congrArg PV.bool c21) (all1 (VRd.ntl (rd_eql rfl rfl)) all0) ?_
            refine dops_rdW [(low, [⟨24, 2, [.agg [.int .i64 p1.Low, .int .i64 p1.High]], 0⟩, ⟨51, 2, [.agg [.vs 1 (List.map (PV.int .u8) x3.1.l), .int .i64 x3.1.at_]], 0⟩, ⟨24, 2, [.agg [.int .i64 x3.2.Span.Low, .int .i64 x3.2.Span.High]], 0⟩])] rfl rfl (all1 (VRd.ntl (rd_pickT (congrArg PV.bool c21) rfl)) all0) ?_
            refine dops_rdW [(low, [⟨24, 2, [.agg [.int .i64 p1.Low, .int .i64 p1.High]], 0⟩, ⟨51, 2, [.agg [.vs 1 (List.map (PV.int .u8) x3.1.l), .int .i64 x3.1.at_]], 0⟩, ⟨24, 2, [.agg [.int .i64 x3.2.Span.Low, .int .i64 x3.2.Span.High]], 0⟩])] rfl rfl (all1 (VRd.ntl (rd_mvB rfl)) all0) ?_
            refine dops_skip rfl rfl rfl (neF c26) ?_
            refine dops_rdW [(low, [⟨24, 2, [.agg [.int .i64 p1.Low, .int .i64 p1.High]], 0⟩, ⟨51, 2, [.agg [.vs 1 (List.map (PV.int .u8) x3.1.l), .int .i64 x3.1.at_]], 0⟩, ⟨24, 2, [.agg [.int .i64 x3.2.Span.Low, .int .i64 x3.2.Span.High]], 0⟩])] rfl rfl (all1 (VRd.ntl (rd_pickF (congrArg PV.bool c26) rfl)) all0) ?_
            refine dops_rdW [(low, [⟨24, 2, [.agg [.int .i64 p1.Low, .int .i64 p1.High]], 0⟩, ⟨51, 2, [.agg [.vs 1 (List.map (PV.int .u8) x3.1.l), .int .i64 x3.1.at_]], 0⟩, ⟨24, 2, [.agg [.int .i64 x3.2.Span.Low, .int .i64 x3.2.Span.High]], 0⟩])] rfl rfl (all1 (VRd.ntl (rd_asB rfl)) all0) ?_
            refine dops_nil ?_
            refine vwp_ret ?_
            obtain rfl := Option.some.inj hF
            refine fnR ?_
            exact weak_pick rfl [] (by decide) ⟨rn_low rfl (.bool _), trivial⟩ trivial
        · have hF := bifF c21 hF
          refine vwp_drawn [[], [], [0, 1], [], [], [0, 1, 2, 3, 4], [0, 1, 2, 3, 4, 5], [0, 1, 2, 3, 4, 5, 6], [0, 1, 2, 3, 4, 5, 6, 7], [0, 1, 2, 3, 4, 5, 6, 7], [0, 1, 2, 3, 4, 5, 6, 7, 8, 9], [0, 1, 2, 3, 4, 5, 6, 7], [0, 1, 2, 3, 4, 5, 6, 7], [0, 1, 2, 3, 4, 5, 6, 7, 8, 9, 10, 11, 12], [0, 1, 2, 3, 4, 5, 6, 7, 8, 9, 10, 11, 12, 13], [0, 1, 2, 3, 4, 5, 6, 7, 8, 9, 10, 11, 12, 13, 14], [0, 1, 2, 3, 4, 5, 6, 7, 8, 9, 10, 11, 12, 13, 14, 15], [0, 1, 2, 3, 4, 5, 6, 7, 8, 9, 10, 11, 12, 13, 14, 15, 16], [0, 1, 2, 3, 4, 5, 6, 7, 8, 9, 10, 11, 12, 13, 14, 15, 16], [0, 1, 2, 3, 4, 5, 6, 7, 8, 9, 10, 11, 12, 13, 14, 15, 16, 18], [0, 1, 2, 3, 4, 5, 6, 7, 8, 9, 10, 11, 12, 13, 14, 15, 16, 17, 18, 19], [0, 1, 2, 3, 4, 5, 6, 7, 8, 9, 10, 11, 12, 13, 14, 15, 16], [0, 1, 2, 3, 4, 5, 6, 7, 8, 9, 10, 11, 12, 13, 14, 15, 16], [0, 1, 2, 3, 4, 5, 6, 7, 8, 9, 10, 11, 12, 13, 14, 15, 16, 22], [0, 1, 2, 3, 4, 5, 6, 7, 8, 9, 10, 11, 12, 13, 14, 15, 16, 17, 18, 19, 20, 21, 22, 23], [0, 1, 2, 3, 4, 5, 6, 7, 8, 9, 10, 11, 12, 13, 14, 15, 16, 17, 18, 19, 20, 21, 22, 23, 24], [0, 1, 2, 3, 4, 5, 6, 7, 8, 9, 10, 11, 12, 13, 14, 15, 16, 17, 18, 19, 20, 21, 22, 23, 24, 25], [0, 1, 2, 3, 4, 5, 6, 7, 8, 9, 10, 11, 12, 13, 14, 15, 16, 17, 18, 19, 20, 21, 22, 23, 24, 25, 26], [0, 1, 2, 3, 4, 5, 6, 7, 8, 9, 10, 11, 12, 13, 14, 15, 16, 17, 18, 19, 20, 21, 22, 23, 24, 25, 26, 27], [0, 1, 2, 3, 4, 5, 6, 7, 8, 9, 10, 11, 12, 13, 14, 15, 16, 17, 18, 19, 20, 21, 22, 23, 24, 25, 26, 27], [0, 1, 2, 3, 4, 5, 6, 7, 8, 9, 10, 11, 12, 13, 14, 15, 16, 17, 18, 19, 20, 21, 22, 23, 24, 25, 26, 27, 29], [0, 1, 2, 3, 4, 5, 6, 7, 8, 9, 10, 11, 12, 13, 14, 15, 16, 17, 18, 19, 20, 21, 22, 23, 24, 25, 26, 27, 28, 29, 30], [0, 1, 2, 3, 4, 5, 6, 7, 8, 9, 10, 11, 12, 13, 14, 15, 16, 17, 18, 19, 20, 21, 22, 23, 24, 25, 26, 27], [0, 1, 2, 3, 4, 5, 6, 7, 8, 9, 10, 11, 12, 13, 14, 15, 16, 17, 18, 19, 20, 21, 22, 23, 24, 25, 26, 27], [0, 1, 2, 3, 4, 5, 6, 7, 8, 9, 10, 11, 12, 13, 14, 15, 16, 17, 18, 19, 20, 21, 22, 23, 24, 25, 26, 27, 33], [0, 1, 2, 3, 4, 5, 6, 7, 8, 9, 10, 11, 12, 13, 14, 15, 16, 17, 18, 19, 20, 21, 22, 23, 24, 25, 26, 27, 28, 29, 30, 31, 32, 33, 34], [0, 1, 2, 3, 4, 5, 6, 7, 8, 9, 10, 11, 12, 13, 14, 15, 16, 17, 18, 19, 20, 21, 22, 23, 24, 25, 26, 27, 28, 29, 30, 31, 32, 33, 34, 35], [0, 1, 2, 3, 4, 5, 6, 7, 8, 9, 10, 11, 12, 13, 14, 15, 16, 17, 18, 19, 20, 21, 22, 23, 24, 25, 26, 27, 28, 29, 30, 31, 32, 33, 34, 35, 36], [0, 1, 2, 3, 4, 5, 6, 7, 8, 9, 10, 11, 12, 13, 14, 15, 16, 17, 18, 19, 20, 21, 22, 23, 24, 25, 26, 27, 28, 29, 30, 31, 32, 33, 34, 35, 36, 37], [0, 1, 2, 3, 4, 5, 6, 7, 8, 9, 10, 11, 12, 13, 14, 15, 16, 17, 18, 19, 20, 21, 22, 23, 24, 25, 26, 27, 28, 29, 30, 31, 32, 33, 34, 35, 36, 37, 38], [0, 1, 2, 3, 4, 5, 6, 7, 8, 9, 10, 11, 12, 13, 14, 15, 16, 17, 18, 19, 20, 21, 22, 23, 24, 25, 26, 27, 28, 29, 30, 31, 32, 33, 34, 35, 36, 37, 38, 39], [0, 1, 2, 3, 4, 5, 6, 7, 8, 9, 10, 11, 12, 13, 14, 15, 16, 17, 18, 19, 20, 21, 22, 23, 24, 25, 26, 27, 28, 29, 30, 31, 32, 33, 34, 35, 36, 37, 38, 39, 40]] [false, false, false, false, false, false, false, false, false, false, false, false, false, false, false, false, false, false, false, false, false, false, false, false, false, false, false, false, false, false, false, false, false, false, false, false, false, false, false, false, false, false] [(low, [⟨24, 2, [.agg [.int .i64 p1.Low, .int .i64 p1.High]], 0⟩, ⟨51, 2, [.agg [.vs 1 (List.map (PV.int .u8) x3.1.l), .int .i64 x3.1.at_]], 0⟩, ⟨24, 2, [.agg [.int .i64 x3.2.Span.Low, .int .i64 x3.2.Span.High]], 0⟩])] mixed (by kernel_rfl) rfl (lenAll (all1 rfl all0)) rfl (low, [⟨24, 2, [.agg [.int .i64 p1.Low, .int .i64 p1.High]], 0⟩, ⟨51, 2, [.agg [.vs 1 (List.map (PV.int .u8) x3.1.l), .int .i64 x3.1.at_]], 0⟩, ⟨24, 2, [.agg [.int .i64 x3.2.Span.Low, .int .i64 x3.2.Span.High]], 0⟩]) rfl rfl ?_
          refine dops_rdW [(low, [⟨24, 2, [.agg [.int .i64 p1.Low, .int .i64 p1.High]], 0⟩, ⟨51, 2, [.agg [.vs 1 (List.map (PV.int .u8) x3.1.l), .int .i64 x3.1.at_]], 0⟩, ⟨24, 2, [.agg [.int .i64 x3.2.Span.Low, .int .i64 x3.2.Span.High]], 0⟩])] rfl rfl (all1 (VRd.ntl (rd_loadN (ds := [.int .i64 p1.Low, .int .i64 p1.High]) rfl (getO_N rfl rfl) rfl ta_24 ts_24 rfl rfl rfl)) all0) ?_
          refine dops_rdW [(low, [⟨24, 2, [.agg [.int .i64 p1.Low, .int .i64 p1.High]], 0⟩, ⟨51, 2, [.agg [.vs 1 (List.map (PV.int .u8) x3.1.l), .int .i64 x3.1.at_]], 0⟩, ⟨24, 2, [.agg [.int .i64 x3.2.Span.Low, .int .i64 x3.2.Span.High]], 0⟩])] rfl rfl (all1 (VRd.ntl (rd_mvI rfl)) all0) ?_
          refine dops_rdW [(low, [⟨24, 2, [.agg [.int .i64 p1.Low, .int .i64 p1.High]], 0⟩, ⟨51, 2, [.agg [.vs 1 (List.map (PV.int .u8) x3.1.l), .int .i64 x3.1.at_]], 0⟩, ⟨24, 2, [.agg [.int .i64 x3.2.Span.Low, .int .i64 x3.2.Span.High]], 0⟩])] rfl rfl (all1 (nt_of (vef_callP rfl Try.call11 (F_window_Above_ok h8 _))) all0) ?_
          refine dops_rdW [(low, [⟨24, 2, [.agg [.int .i64 p1.Low, .int .i64 p1.High]], 0⟩, ⟨51, 2, [.agg [.vs 1 (List.map (PV.int .u8) x3.1.l), .int .i64 x3.1.at_]], 0⟩, ⟨24, 2, [.agg [.int .i64 x3.2.Span.Low, .int .i64 x3.2.Span.High]], 0⟩])] rfl rfl (all1 (VRd.ntl (rd_loadN (ds := [.int .i64 p1.Low, .int .i64 p1.High]) rfl (getO_N rfl rfl) rfl ta_24 ts_24 rfl rfl rfl)) all0) ?_
          refine dops_rdW [(low, [⟨24, 2, [.agg [.int .i64 p1.Low, .int .i64 p1.High]], 0⟩, ⟨51, 2, [.agg [.vs 1 (List.map (PV.int .u8) x3.1.l), .int .i64 x3.1.at_]], 0⟩, ⟨24, 2, [.agg [.int .i64 x3.2.Span.Low, .int .i64 x3.2.Span.High]], 0⟩])] rfl rfl (all1 (VRd.ntl (rd_mvI rfl)) all0) ?_
          refine dops_rdW [(low, [⟨24, 2, [.agg [.int .i64 p1.Low, .int .i64 p1.High]], 0⟩, ⟨51, 2, [.agg [.vs 1 (List.map (PV.int .u8) x3.1.l), .int .i64 x3.1.at_]], 0⟩, ⟨24, 2, [.agg [.int .i64 x3.2.Span.Low, .int .i64 x3.2.Span.High]], 0⟩])] rfl rfl (all1 (nt_of (vef_callP rfl Try.call12 (F_ref06_Above_ok h10 _))) all0) ?_
          refine dops_rdW [(low, [⟨24, 2, [.agg [.int .i64 p1.Low, .int .i64 p1.High]], 0⟩, ⟨51, 2, [.agg [.vs 1 (List.map (PV.int .u8) x3.1.l), .int .i64 x3.1.at_]], 0⟩, ⟨24, 2, [.agg [.int .i64 x3.2.Span.Low, .int .i64 x3.2.Span.High]], 0⟩])] rfl rfl (all1 (VRd.ntl (rd_eql rfl rfl)) all0) ?_
          refine dops_rdW [(low, [⟨24, 2, [.agg [.int .i64 p1.Low, .int .i64 p1.High]], 0⟩, ⟨51, 2, [.agg [.vs 1 (List.map (PV.int .u8) x3.1.l), .int .i64 x3.1.at_]], 0⟩, ⟨24, 2, [.agg [.int .i64 x3.2.Span.Low, .int .i64 x3.2.Span.High]], 0⟩])] rfl rfl (all1 (VRd.ntl (rd_mvB rfl)) all0) ?_
          refine dops_takeW [(low, [⟨24, 2, [.agg [.int .i64 p1.Low, .int .i64 p1.High]], 0⟩, ⟨51, 2, [.agg [.vs 1 (List.map (PV.int .u8) x3.1.l), .int .i64 x3.1.at_]], 0⟩, ⟨24, 2, [.agg [.int .i64 x3.2.Span.Low, .int .i64 x3.2.Span.High]], 0⟩])] rfl rfl rfl (congrArg PV.bool c11) (all1 (VRd.ntl (rd_loadN (ds := [.int .i64 x3.2.Span.Low, .int .i64 x3.2.Span.High]) rfl (getO_N rfl rfl) rfl ta_24 ts_24 rfl rfl rfl)) all0) ?_
          refine dops_takeW [(low, [⟨24, 2, [.agg [.int .i64 p1.Low, .int .i64 p1.High]], 0⟩, ⟨51, 2, [.agg [.vs 1 (List.map (PV.int .u8) x3.1.l), .int .i64 x3.1.at_]], 0⟩, ⟨24, 2, [.agg [.int .i64 x3.2.Span.Low, .int .i64 x3.2.Span.High]], 0⟩])] rfl rfl rfl (congrArg PV.bool c11) (all1 (VRd.ntl (rd_mvI rfl)) all0) ?_
          refine dops_takeW [(low, [⟨24, 2, [.agg [.int .i64 p1.Low, .int .i64 p1.High]], 0⟩, ⟨51, 2, [.agg [.vs 1 (List.map (PV.int .u8) x3.1.l), .int .i64 x3.1.at_]], 0⟩, ⟨24, 2, [.agg [.int .i64 x3.2.Span.Low, .int .i64 x3.2.Span.High]], 0⟩])] rfl rfl rfl (congrArg PV.bool c11) (all1 (nt_of (vef_callP rfl Try.call11 (F_window_Above_ok h13 _))) all0) ?_
          refine dops_takeW [(low, [⟨24, 2, [.agg [.int .i64 p1.Low, .int .i64 p1.High]], 0⟩, ⟨51, 2, [.agg [.vs 1 (List.map (PV.int .u8) x3.1.l), .int .i64 x3.1.at_]], 0⟩, ⟨24, 2, [.agg [.int .i64 x3.2.Span.Low, .int .i64 x3.2.Span.High]], 0⟩])] rfl rfl rfl (congrArg PV.bool c11) (all1 (VRd.ntl (rd_loadN (ds := [.int .i64 x3.2.Span.Low, .int .i64 x3.2.Span.High]) rfl (getO_N rfl rfl) rfl ta_24 ts_24 rfl rfl rfl)) all0) ?_
          refine dops_takeW [(low, [⟨24, 2, [.agg [.int .i64 p1.Low, .int .i64 p1.High]], 0⟩, ⟨51, 2, [.agg [.vs 1 (List.map (PV.int .u8) x3.1.l), .int .i64 x3.1.at_]], 0⟩, ⟨24, 2, [.agg [.int .i64 x3.2.Span.Low, .int .i64 x3.2.Span.High]], 0⟩])] rfl rfl rfl (congrArg PV.bool c11) (all1 (VRd.ntl (rd_mvI rfl)) all0) ?_
          refine dops_takeW [(low, [⟨24, 2, [.agg [.int .i64 p1.Low, .int .i64 p1.High]], 0⟩, ⟨51, 2, [.agg [.vs 1 (List.map (PV.int .u8) x3.1.l), .int .i64 x3.1.at_]], 0⟩, ⟨24, 2, [.agg [.int .i64 x3.2.Span.Low, .int .i64 x3.2.Span.High]], 0⟩])] rfl rfl rfl (congrArg PV.bool c11) (all1 (nt_of (vef_callP rfl Try.call12 (F_ref06_Above_ok h15 _))) all0) ?_
          refine dops_takeW [(low, [⟨24, 2, [.agg [.int .i64 p1.Low, .int .i64 p1.High]], 0⟩, ⟨51, 2, [.agg [.vs 1 (List.map (PV.int .u8) x3.1.l), .int .i64 x3.1.at_]], 0⟩, ⟨24, 2, [.agg [.int .i64 x3.2.Span.Low, .int .i64 x3.2.Span.High]], 0⟩])] rfl rfl rfl (congrArg PV.bool c11) (all1 (VRd.ntl (rd_eql rfl rfl)) all0) ?_
          refine dops_rdW [(low, [⟨24, 2, [.agg [.int .i64 p1.Low, .int .i64 p1.High]], 0⟩, ⟨51, 2, [.agg [.vs 1 (List.map (PV.int .u8) x3.1.l), .int .i64 x3.1.at_]], 0⟩, ⟨24, 2, [.agg [.int .i64 x3.2.Span.Low, .int .i64 x3.2.Span.High]], 0⟩])] rfl rfl (all1 (VRd.ntl (rd_pickT (congrArg PV.bool c11) rfl)) all0) ?_
          refine dops_rdW [(low, [⟨24, 2, [.agg [.int .i64 p1.Low, .int .i64 p1.High]], 0⟩, ⟨51, 2, [.agg [.vs 1 (List.map (PV.int .u8) x3.1.l), .int .i64 x3.1.at_]], 0⟩, ⟨24, 2, [.agg [.int .i64 x3.2.Span.Low, .int .i64 x3.2.Span.High]], 0⟩])] rfl rfl (all1 (VRd.ntl (rd_mvB rfl)) all0) ?_
          refine dops_takeW [(low, [⟨24, 2, [.agg [.int .i64 p1.Low, .int .i64 p1.High]], 0⟩, ⟨51, 2, [.agg [.vs 1 (List.map (PV.int .u8) x3.1.l), .int .i64 x3.1.at_]], 0⟩, ⟨24, 2, [.agg [.int .i64 x3.2.Span.Low, .int .i64 x3.2.Span.High]], 0⟩])] rfl rfl rfl (congrArg PV.bool c16) (all1 (VRd.ntl (rd_loadN (ds := [.int .i64 x3.2.Span.Low, .int .i64 x3.2.Span.High]) rfl (getO_N rfl rfl) rfl ta_24 ts_24 rfl rfl rfl)) all0) ?_
          refine dops_takeW [(low, [⟨24, 2, [.agg [.int .i64 p1.Low, .int .i64 p1.High]], 0⟩, ⟨51, 2, [.agg [.vs 1 (List.map (PV.int .u8) x3.1.l), .int .i64 x3.1.at_]], 0⟩, ⟨24, 2, [.agg [.int .i64 x3.2.Span.Low, .int .i64 x3.2.Span.High]], 0⟩])] rfl rfl rfl (congrArg PV.bool c16) (all1 (VRd.ntl (rd_fieldAddr rfl tf_24_0 ts_3 (by decide))) all0) ?_
          refine dops_takeW [(low, [⟨24, 2, [.agg [.int .i64 p1.Low, .int .i64 p1.High]], 0⟩, ⟨51, 2, [.agg [.vs 1 (List.map (PV.int .u8) x3.1.l), .int .i64 x3.1.at_]], 0⟩, ⟨24, 2, [.agg [.int .i64 x3.2.Span.Low, .int .i64 x3.2.Span.High]], 0⟩])] rfl rfl rfl (congrArg PV.bool c16) (all1 (VRd.ntl (rd_load1 rfl (getO_N rfl rfl) rfl ta_3 rfl)) all0) ?_
          refine dops_takeW [(low, [⟨24, 2, [.agg [.int .i64 p1.Low, .int .i64 p1.High]], 0⟩, ⟨51, 2, [.agg [.vs 1 (List.map (PV.int .u8) x3.1.l), .int .i64 x3.1.at_]], 0⟩, ⟨24, 2, [.agg [.int .i64 x3.2.Span.Low, .int .i64 x3.2.Span.High]], 0⟩])] rfl rfl rfl (congrArg PV.bool c16) (all1 (nt_of (vef_callP rfl Try.call11 (F_window_Above_ok h18 _))) all0) ?_
          refine dops_takeW [(low, [⟨24, 2, [.agg [.int .i64 p1.Low, .int .i64 p1.High]], 0⟩, ⟨51, 2, [.agg [.vs 1 (List.map (PV.int .u8) x3.1.l), .int .i64 x3.1.at_]], 0⟩, ⟨24, 2, [.agg [.int .i64 x3.2.Span.Low, .int .i64 x3.2.Span.High]], 0⟩])] rfl rfl rfl (congrArg PV.bool c16) (all1 (VRd.ntl (rd_loadN (ds := [.int .i64 x3.2.Span.Low, .int .i64 x3.2.Span.High]) rfl (getO_N rfl rfl) rfl ta_24 ts_24 rfl rfl rfl)) all0) ?_
          refine dops_takeW [(low, [⟨24, 2, [.agg [.int .i64 p1.Low, .int .i64 p1.High]], 0⟩, ⟨51, 2, [.agg [.vs 1 (List.map (PV.int .u8) x3.1.l), .int .i64 x3.1.at_]], 0⟩, ⟨24, 2, [.agg [.int .i64 x3.2.Span.Low, .int .i64 x3.2.Span.High]], 0⟩])] rfl rfl rfl (congrArg PV.bool c16) (all1 (VRd.ntl (rd_fieldAddr rfl tf_24_0 ts_3 (by decide))) all0) ?_
          refine dops_takeW [(low, [⟨24, 2, [.agg [.int .i64 p1.Low, .int .i64 p1.High]], 0⟩, ⟨51, 2, [.agg [.vs 1 (List.map (PV.int .u8) x3.1.l), .int .i64 x3.1.at_]], 0⟩, ⟨24, 2, [.agg [.int .i64 x3.2.Span.Low, .int .i64 x3.2.Span.High]], 0⟩])] rfl rfl rfl (congrArg PV.bool c16) (all1 (VRd.ntl (rd_load1 rfl (getO_N rfl rfl) rfl ta_3 rfl)) all0) ?_
          refine dops_takeW [(low, [⟨24, 2, [.agg [.int .i64 p1.Low, .int .i64 p1.High]], 0⟩, ⟨51, 2, [.agg [.vs 1 (List.map (PV.int .u8) x3.1.l), .int .i64 x3.1.at_]], 0⟩, ⟨24, 2, [.agg [.int .i64 x3.2.Span.Low, .int .i64 x3.2.Span.High]], 0⟩])] rfl rfl rfl (congrArg PV.bool c16) (all1 (nt_of (vef_callP rfl Try.call12 (F_ref06_Above_ok h20 _))) all0) ?_
          refine dops_takeW [(low, [⟨24, 2, [.agg [.int .i64 p1.Low, .int .i64 p1.High]], 0⟩, ⟨51, 2, [.agg [.vs 1 (List.map (PV.int .u8) x3.1.l), .int .i64 x3.1.at_]], 0⟩, ⟨24, 2, [.agg [.int .i64 x3.2.Span.Low, .int .i64 x3.2.Span.High]], 0⟩])] rfl rfl rfl (congrArg PV.bool c16) (all1 (VRd.ntl (rd_eql rfl rfl)) all0) ?_
          refine dops_rdW [(low, [⟨24, 2, [.agg [.int .i64 p1.Low, .int .i64 p1.High]], 0⟩, ⟨51, 2, [.agg [.vs 1 (List.map (PV.int .u8) x3.1.l), .int .i64 x3.1.at_]], 0⟩, ⟨24, 2, [.agg [.int .i64 x3.2.Span.Low, .int .i64 x3.2.Span.High]], 0⟩])] rfl rfl (all1 (VRd.ntl (rd_pickT (congrArg PV.bool c16) rfl)) all0) ?_
          refine dops_rdW [(low, [⟨24, 2, [.agg [.int .i64 p1.Low, .int .i64 p1.High]], 0⟩, ⟨51, 2, [.agg [.vs 1 (List.map (PV.int .u8) x3.1.l), .int .i64 x3.1.at_]], 0⟩, ⟨24, 2, [.agg [.int .i64 x3.2.Span.Low, .int .i64 x3.2.Span.High]], 0⟩])] rfl rfl (all1 (VRd.ntl (rd_mvB rfl)) all0) ?_
          refine dops_skip rfl rfl rfl (neF c21) ?_
          refine dops_skip rfl rfl rfl (neF c21) ?_
          refine dops_skip rfl rfl rfl (neF c21) ?_
          refine dops_skip rfl rfl rfl (neF c21) ?_
          refine dops_skip rfl rfl rfl (neF c21) ?_
          refine dops_skip rfl rfl rfl (neF c21) ?_
          refine dops_skip rfl rfl rfl (neF c21) ?_
          refine dops_skip rfl rfl rfl (neF c21) ?_
          refine dops_skip rfl rfl rfl (neF c21) ?_
          refine dops_rdW [(low, [⟨24, 2, [.agg [.int .i64 p1.Low, .int .i64 p1.High]], 0⟩, ⟨51, 2, [.agg [.vs 1 (List.map (PV.int .u8) x3.1.l), .int .i64 x3.1.at_]], 0⟩, ⟨24, 2, [.agg [.int .i64 x3.2.Span.Low, .int .i64 x3.2.Span.High]], 0⟩])] rfl rfl (all1 (VRd.ntl (rd_pickF (congrArg PV.bool c21) rfl)) all0) ?_
          refine dops_rdW [(low, [⟨24, 2, [.agg [.int .i64 p1.Low, .int .i64 p1.High]], 0⟩, ⟨51, 2, [.agg [.vs 1 (List.map (PV.int .u8) x3.1.l), .int .i64 x3.1.at_]], 0⟩, ⟨24, 2, [.agg [.int .i64 x3.2.Span.Low, .int .i64 x3.2.Span.High]], 0⟩])] rfl rfl (all1 (VRd.ntl (rd_mvB rfl)) all0) ?_
          refine dops_skip rfl rfl rfl (by decide) ?_
          refine dops_rdW [(low, [⟨24, 2, [.agg [.int .i64 p1.Low, .int .i64 p1.High]], 0⟩, ⟨51, 2, [.agg [.vs 1 (List.map (PV.int .u8) x3.1.l), .int .i64 x3.1.at_]], 0⟩, ⟨24, 2, [.agg [.int .i64 x3.2.Span.Low, .int .i64 x3.2.Span.High]], 0⟩])] rfl rfl (all1 (VRd.ntl (rd_pickF rfl rfl)) all0) ?_
          refine dops_rdW [(low, [⟨24, 2, [.agg [.int .i64 p1.Low, .int .i64 p1.High]], 0⟩, ⟨51, 2, [.agg [.vs 1 (List.map (PV.int .u8) x3.1.l), .int .i64 x3.1.at_]], 0⟩, ⟨24, 2, [.agg [.int .i64 x3.2.Span.Low, .int .i64 x3.2.Span.High]], 0⟩])] rfl rfl (all1 (VRd.ntl (rd_asB rfl)) all0) ?_
          refine dops_nil ?_
          refine vwp_ret ?_
          obtain rfl := Option.some.inj hF
          refine fnR ?_
          exact weak_pick rfl [] (by decide) ⟨rn_low rfl (.bool _), trivial⟩ trivial
      · have hF := bifF c16 hF
        refine vwp_drawn [[], [], [0, 1], [], [], [0, 1, 2, 3, 4], [0, 1, 2, 3, 4, 5], [0, 1, 2, 3, 4, 5, 6], [0, 1, 2, 3, 4, 5, 6, 7], [0, 1, 2, 3, 4, 5, 6, 7], [0, 1, 2, 3, 4, 5, 6, 7, 8, 9], [0, 1, 2, 3, 4, 5, 6, 7], [0, 1, 2, 3, 4, 5, 6, 7], [0, 1, 2, 3, 4, 5, 6, 7, 8, 9, 10, 11, 12], [0, 1, 2, 3, 4, 5, 6, 7, 8, 9, 10, 11, 12, 13], [0, 1, 2, 3, 4, 5, 6, 7, 8, 9, 10, 11, 12, 13, 14], [0, 1, 2, 3, 4, 5, 6, 7, 8, 9, 10, 11, 12, 13, 14, 15], [0, 1, 2, 3, 4, 5, 6, 7, 8, 9, 10, 11, 12, 13, 14, 15, 16], [0, 1, 2, 3, 4, 5, 6, 7, 8, 9, 10, 11, 12, 13, 14, 15, 16], [0, 1, 2, 3, 4, 5, 6, 7, 8, 9, 10, 11, 12, 13, 14, 15, 16, 18], [0, 1, 2, 3, 4, 5, 6, 7, 8, 9, 10, 11, 12, 13, 14, 15, 16, 17, 18, 19], [0, 1, 2, 3, 4, 5, 6, 7, 8, 9, 10, 11, 12, 13, 14, 15, 16], [0, 1, 2, 3, 4, 5, 6, 7, 8, 9, 10, 11, 12, 13, 14, 15, 16], [0, 1, 2, 3, 4, 5, 6, 7, 8, 9, 10, 11, 12, 13, 14, 15, 16, 22], [0, 1, 2, 3, 4, 5, 6, 7, 8, 9, 10, 11, 12, 13, 14, 15, 16, 17, 18, 19, 20, 21, 22, 23], [0, 1, 2, 3, 4, 5, 6, 7, 8, 9, 10, 11, 12, 13, 14, 15, 16, 17, 18, 19, 20, 21, 22, 23, 24], [0, 1, 2, 3, 4, 5, 6, 7, 8, 9, 10, 11, 12, 13, 14, 15, 16, 17, 18, 19, 20, 21, 22, 23, 24, 25], [0, 1, 2, 3, 4, 5, 6, 7, 8, 9, 10, 11, 12, 13, 14, 15, 16, 17, 18, 19, 20, 21, 22, 23, 24, 25, 26], [0, 1, 2, 3, 4, 5, 6, 7, 8, 9, 10, 11, 12, 13, 14, 15, 16, 17, 18, 19, 20, 21, 22, 23, 24, 25, 26, 27], [0, 1, 2, 3, 4, 5, 6, 7, 8, 9, 10, 11, 12, 13, 14, 15, 16, 17, 18, 19, 20, 21, 22, 23, 24, 25, 26, 27], [0, 1, 2, 3, 4, 5, 6, 7, 8, 9, 10, 11, 12, 13, 14, 15, 16, 17, 18, 19, 20, 21, 22, 23, 24, 25, 26, 27, 29], [0, 1, 2, 3, 4, 5, 6, 7, 8, 9, 10, 11, 12, 13, 14, 15, 16, 17, 18, 19, 20, 21, 22, 23, 24, 25, 26, 27, 28, 29, 30], [0, 1, 2, 3, 4, 5, 6, 7, 8, 9, 10, 11, 12, 13, 14, 15, 16, 17, 18, 19, 20, 21, 22, 23, 24, 25, 26, 27], [0, 1, 2, 3, 4, 5, 6, 7, 8, 9, 10, 11, 12, 13, 14, 15, 16, 17, 18, 19, 20, 21, 22, 23, 24, 25, 26, 27], [0, 1, 2, 3, 4, 5, 6, 7, 8, 9, 10, 11, 12, 13, 14, 15, 16, 17, 18, 19, 20, 21, 22, 23, 24, 25, 26, 27, 33], [0, 1, 2, 3, 4, 5, 6, 7, 8, 9, 10, 11, 12, 13, 14, 15, 16, 17, 18, 19, 20, 21, 22, 23, 24, 25, 26, 27, 28, 29, 30, 31, 32, 33, 34], [0, 1, 2, 3, 4, 5, 6, 7, 8, 9, 10, 11, 12, 13, 14, 15, 16, 17, 18, 19, 20, 21, 22, 23, 24, 25, 26, 27, 28, 29, 30, 31, 32, 33, 34, 35], [0, 1, 2, 3, 4, 5, 6, 7, 8, 9, 10, 11, 12, 13, 14, 15, 16, 17, 18, 19, 20, 21, 22, 23, 24, 25, 26, 27, 28, 29, 30, 31, 32, 33, 34, 35, 36], [0, 1, 2, 3, 4, 5, 6, 7, 8, 9, 10, 11, 12, 13, 14, 15, 16, 17, 18, 19, 20, 21, 22, 23, 24, 25, 26, 27, 28, 29, 30, 31, 32, 33, 34, 35, 36, 37], [0, 1, 2, 3, 4, 5, 6, 7, 8, 9, 10, 11, 12, 13, 14, 15, 16, 17, 18, 19, 20, 21, 22, 23, 24, 25, 26, 27, 28, 29, 30, 31, 32, 33, 34, 35, 36, 37, 38], [0, 1, 2, 3, 4, 5, 6, 7, 8, 9, 10, 11, 12, 13, 14, 15, 16, 17, 18, 19, 20, 21, 22, 23, 24, 25, 26, 27, 28, 29, 30, 31, 32, 33, 34, 35, 36, 37, 38, 39], [0, 1, 2, 3, 4, 5, 6, 7, 8, 9, 10, 11, 12, 13, 14, 15, 16, 17, 18, 19, 20, 21, 22, 23, 24, 25, 26, 27, 28, 29, 30, 31, 32, 33, 34, 35, 36, 37, 38, 39, 40]] [false, false, false, false, false, false, false, false, false, false, false, false, false, false, false, false, false, false, false, false, false, false, false, false, false, false, false, false, false, false, false, false, false, false, false, false, false, false, false, false, false, false] [(low, [⟨24, 2, [.agg [.int .i64 p1.Low, .int .i64 p1.High]], 0⟩, ⟨51, 2, [.agg [.vs 1 (List.map (PV.int .u8) x3.1.l), .int .i64 x3.1.at_]], 0⟩, ⟨24, 2, [.agg [.int .i64 x3.2.Span.Low, .int .i64 x3.2.Span.High]], 0⟩])] mixed (by kernel_rfl) rfl (lenAll (all1 rfl all0)) rfl (low, [⟨24, 2, [.agg [.int .i64 p1.Low, .int .i64 p1.High]], 0⟩, ⟨51, 2, [.agg [.vs 1 (List.map (PV.int .u8) x3.1.l), .int .i64 x3.1.at_]], 0⟩, ⟨24, 2, [.agg [.int .i64 x3.2.Span.Low, .int .i64 x3.2.Span.High]], 0⟩]) rfl rfl ?_
        refine dops_rdW [(low, [⟨24, 2, [.agg [.int .i64 p1.Low, .int .i64 p1.High]], 0⟩, ⟨51, 2, [.agg [.vs 1 (List.map (PV.int .u8) x3.1.l), .int .i64 x3.1.at_]], 0⟩, ⟨24, 2, [.agg [.int .i64 x3.2.Span.Low, .int .i64 x3.2.Span.High]], 0⟩])] rfl rfl (all1 (VRd.ntl (rd_loadN (ds := [.int .i64 p1.Low, .int .i64 p1.High]) rfl (getO_N rfl rfl) rfl ta_24 ts_24 rfl rfl rfl)) all0) ?_
        refine dops_rdW [(low, [⟨24, 2, [.agg [.int .i64 p1.Low, .int .i64 p1.High]], 0⟩, ⟨51, 2, [.agg [.vs 1 (List.map (PV.int .u8) x3.1.l), .int .i64 x3.1.at_]], 0⟩, ⟨24, 2, [.agg [.int .i64 x3.2.Span.Low, .int .i64 x3.2.Span.High]], 0⟩])] rfl rfl (all1 (VRd.ntl (rd_mvI rfl)) all0) ?_
        refine dops_rdW [(low, [⟨24, 2, [.agg [.int .i64 p1.Low, .int .i64 p1.High]], 0⟩, ⟨51, 2, [.agg [.vs 1 (List.map (PV.int .u8) x3.1.l), .int .i64 x3.1.at_]], 0⟩, ⟨24, 2, [.agg [.int .i64 x3.2.Span.Low, .int .i64 x3.2.Span.High]], 0⟩])] rfl rfl (all1 (nt_of (vef_callP rfl Try.call11 (F_window_Above_ok h8 _))) all0) ?_
        refine dops_rdW [(low, [⟨24, 2, [.agg [.int .i64 p1.Low, .int .i64 p1.High]], 0⟩, ⟨51, 2, [.agg [.vs 1 (List.map (PV.int .u8) x3.1.l), .int .i64 x3.1.at_]], 0⟩, ⟨24, 2, [.agg [.int .i64 x3.2.Span.Low, .int .i64 x3.2.Span.High]], 0⟩])] rfl rfl (all1 (VRd.ntl (rd_loadN (ds := [.int .i64 p1.Low, .int .i64 p1.High]) rfl (getO_N rfl rfl) rfl ta_24 ts_24 rfl rfl rfl)) all0) ?_
        refine dops_rdW [(low, [⟨24, 2, [.agg [.int .i64 p1.Low, .int .i64 p1.High]], 0⟩, ⟨51, 2, [.agg [.vs 1 (List.map (PV.int .u8) x3.1.l), .int .i64 x3.1.at_]], 0⟩, ⟨24, 2, [.agg [.int .i64 x3.2.Span.Low, .int .i64 x3.2.Span.High]], 0⟩])] rfl rfl (all1 (VRd.ntl (rd_mvI rfl)) all0) ?_
        refine dops_rdW [(low, [⟨24, 2, [.agg [.int .i64 p1.Low, .int .i64 p1.High]], 0⟩, ⟨51, 2, [.agg [.vs 1 (List.map (PV.int .u8) x3.1.l), .int .i64 x3.1.at_]], 0⟩, ⟨24, 2, [.agg [.int .i64 x3.2.Span.Low, .int .i64 x3.2.Span.High]], 0⟩])] rfl rfl (all1 (nt_of (vef_callP rfl Try.call12 (F_ref06_Above_ok h10 _))) all0) ?_
        refine dops_rdW [(low, [⟨24, 2, [.agg [.int .i64 p1.Low, .int .i64 p1.High]], 0⟩, ⟨51, 2, [.agg [.vs 1 (List.map (PV.int .u8) x3.1.l), .int .i64 x3.1.at_]], 0⟩, ⟨24, 2, [.agg [.int .i64 x3.2.Span.Low, .int .i64 x3.2.Span.High]], 0⟩])] rfl rfl (all1 (VRd.ntl (rd_eql rfl rfl)) all0) ?_
        refine dops_rdW [(low, [⟨24, 2, [.agg [.int .i64 p1.Low, .int .i64 p1.High]], 0⟩, ⟨51, 2, [.agg [.vs 1 (List.map (PV.int .u8) x3.1.l), .int .i64 x3.1.at_]], 0⟩, ⟨24, 2, [.agg [.int .i64 x3.2.Span.Low, .int .i64 x3.2.Span.High]], 0⟩])] rfl rfl (all1 (VRd.ntl (rd_mvB rfl)) all0) ?_
        refine dops_takeW [(low, [⟨24, 2, [.agg [.int .i64 p1.Low, .int .i64 p1.High]], 0⟩, ⟨51, 2, [.agg [.vs 1 (List.map (PV.int .u8) x3.1.l), .int .i64 x3.1.at_]], 0⟩, ⟨24, 2, [.agg [.int .i64 x3.2.Span.Low, .int .i64 x3.2.Span.High]], 0⟩])] rfl rfl rfl (congrArg PV.bool c11) (all1 (VRd.ntl (rd_loadN (ds := [.int .i64 x3.2.Span.Low, .int .i64 x3.2.Span.High]) rfl (getO_N rfl rfl) rfl ta_24 ts_24 rfl rfl rfl)) all0) ?_
        refine dops_takeW [(low, [⟨24, 2, [.agg [.int .i64 p1.Low, .int .i64 p1.High]], 0⟩, ⟨51, 2, [.agg [.vs 1 (List.map (PV.int .u8) x3.1.l), .int .i64 x3.1.at_]], 0⟩, ⟨24, 2, [.agg [.int .i64 x3.2.Span.Low, .int .i64 x3.2.Span.High]], 0⟩])] rfl rfl rfl (congrArg PV.bool c11) (all1 (VRd.ntl (rd_mvI rfl)) all0) ?_
        refine dops_takeW [(low, [⟨24, 2, [.agg [.int .i64 p1.Low, .int .i64 p1.High]], 0⟩, ⟨51, 2, [.agg [.vs 1 (List.map (PV.int .u8) x3.1.l), .int .i64 x3.1.at_]], 0⟩, ⟨24, 2, [.agg [.int .i64 x3.2.Span.Low, .int .i64 x3.2.Span.High]], 0⟩])] rfl rfl rfl (congrArg PV.bool c11) (all1 (nt_of (vef_callP rfl Try.call11 (F_window_Above_ok h13 _))) all0) ?_
        refine dops_takeW [(low, [⟨24, 2, [.agg [.int .i64 p1.Low, .int .i64 p1.High]], 0⟩, ⟨51, 2, [.agg [.vs 1 (List.map (PV.int .u8) x3.1.l), .int .i64 x3.1.at_]], 0⟩, ⟨24, 2, [.agg [.int .i64 x3.2.Span.Low, .int .i64 x3.2.Span.High]], 0⟩])] rfl rfl rfl (congrArg PV.bool c11) (all1 (VRd.ntl (rd_loadN (ds := [.int .i64 x3.2.Span.Low, .int .i64 x3.2.Span.High]) rfl (getO_N rfl rfl) rfl ta_24 ts_24 rfl rfl rfl)) all0) ?_
        refine dops_takeW [(low, [⟨24, 2, [.agg [.int .i64 p1.Low, .int .i64 p1.High]], 0⟩, ⟨51, 2, [.agg [.vs 1 (List.map (PV.int .u8) x3.1.l), .int .i64 x3.1.at_]], 0⟩, ⟨24, 2, [.agg [.int .i64 x3.2.Span.Low, .int .i64 x3.2.Span.High]], 0⟩])] rfl rfl rfl (congrArg PV.bool c11) (all1 (VRd.ntl (rd_mvI rfl)) all0) ?_
        refine dops_takeW [(low, [⟨24, 2, [.agg [.int .i64 p1.Low, .int .i64 p1.High]], 0⟩, ⟨51, 2, [.agg [.vs 1 (List.map (PV.int .u8) x3.1.l), .int .i64 x3.1.at_]], 0⟩, ⟨24, 2, [.agg [.int .i64 x3.2.Span.Low, .int .i64 x3.2.Span.High]], 0⟩])] rfl rfl rfl (congrArg PV.bool c11) (all1 (nt_of (vef_callP rfl Try.call12 (F_ref06_Above_ok h15 _))) all0) ?_
        refine dops_takeW [(low, [⟨24, 2, [.agg [.int .i64 p1.Low, .int .i64 p1.High]], 0⟩, ⟨51, 2, [.agg [.vs 1 (List.map (PV.int .u8) x3.1.l), .int .i64 x3.1.at_]], 0⟩, ⟨24, 2, [.agg [.int .i64 x3.2.Span.Low, .int .i64 x3.2.Span.High]], 0⟩])] rfl rfl rfl (congrArg PV.bool c11) (all1 (VRd.ntl (rd_eql rfl rfl)) all0) ?_
        refine dops_rdW [(low, [⟨24, 2, [.agg [.int .i64 p1.Low, .int .i64 p1.High]], 0⟩, ⟨51, 2, [.agg [.vs 1 (List.map (PV.int .u8) x3.1.l), .int .i64 x3.1.at_]], 0⟩, ⟨24, 2, [.agg [.int .i64 x3.2.Span.Low, .int .i64 x3.2.Span.High]], 0⟩])] rfl rfl (all1 (VRd.ntl (rd_pickT (congrArg PV.bool c11) rfl)) all0) ?_
        refine dops_rdW [(low, [⟨24, 2, [.agg [.int .i64 p1.Low, .int .i64 p1.High]], 0⟩, ⟨51, 2, [.agg [.vs 1 (List.map (PV.int .u8) x3.1.l), .int .i64 x3.1.at_]], 0⟩, ⟨24, 2, [.agg [.int .i64 x3.2.Span.Low, .int .i64 x3.2.Span.High]], 0⟩])] rfl rfl (all1 (VRd.ntl (rd_mvB rfl)) all0) ?_
        refine dops_skip rfl rfl rfl (neF c16) ?_
        refine dops_skip rfl rfl rfl (neF c16) ?_
        refine dops_skip rfl rfl rfl (neF c16) ?_
        refine dops_skip rfl rfl rfl (neF c16) ?_
        refine dops_skip rfl rfl rfl (neF c16) ?_
        refine dops_skip rfl rfl rfl (neF c16) ?_
        refine dops_skip rfl rfl rfl (neF c16) ?_
        refine dops_skip rfl rfl rfl (neF c16) ?_
        refine dops_skip rfl rfl rfl (neF c16) ?_
        refine dops_rdW [(low, [⟨24, 2, [.agg [.int .i64 p1.Low, .int .i64 p1.High]], 0⟩, ⟨51, 2, [.agg [.vs 1 (List.map (PV.int .u8) x3.1.l), .int .i64 x3.1.at_]], 0⟩, ⟨24, 2, [.agg [.int .i64 x3.2.Span.Low, .int .i64 x3.2.Span.High]], 0⟩])] rfl rfl (all1 (VRd.ntl (rd_pickF (congrArg PV.bool c16) rfl)) all0) ?_
        refine dops_rdW [(low, [⟨24, 2, [.agg [.int .i64 p1.Low, .int .i64 p1.High]], 0⟩, ⟨51, 2, [.agg [.vs 1 (List.map (PV.int .u8) x3.1.l), .int .i64 x3.1.at_]], 0⟩, ⟨24, 2, [.agg [.int .i64 x3.2.Span.Low, .int .i64 x3.2.Span.High]], 0⟩])] rfl rfl (all1 (VRd.ntl (rd_mvB rfl)) all0) ?_
        refine dops_skip rfl rfl rfl (by decide) ?_
        refine dops_skip rfl rfl rfl (by decide) ?_
        refine dops_skip rfl rfl rfl (by decide) ?_
        refine dops_skip rfl rfl rfl (by decide) ?_
        refine dops_skip rfl rfl rfl (by decide) ?_
        refine dops_skip rfl rfl rfl (by decide) ?_
        refine dops_skip rfl rfl rfl (by decide) ?_
        refine dops_skip rfl rfl rfl (by decide) ?_
        refine dops_skip rfl rfl rfl (by decide) ?_
        refine dops_rdW [(low, [⟨24, 2, [.agg [.int .i64 p1.Low, .int .i64 p1.High]], 0⟩, ⟨51, 2, [.agg [.vs 1 (List.map (PV.int .u8) x3.1.l), .int .i64 x3.1.at_]], 0⟩, ⟨24, 2, [.agg [.int .i64 x3.2.Span.Low, .int .i64 x3.2.Span.High]], 0⟩])] rfl rfl (all1 (VRd.ntl (rd_pickF rfl rfl)) all0) ?_
        refine dops_rdW [(low, [⟨24, 2, [.agg [.int .i64 p1.Low, .int .i64 p1.High]], 0⟩, ⟨51, 2, [.agg [.vs 1 (List.map (PV.int .u8) x3.1.l), .int .i64 x3.1.at_]], 0⟩, ⟨24, 2, [.agg [.int .i64 x3.2.Span.Low, .int .i64 x3.2.Span.High]], 0⟩])] rfl rfl (all1 (VRd.ntl (rd_mvB rfl)) all0) ?_
        refine dops_skip rfl rfl rfl (by decide) ?_
        refine dops_rdW [(low, [⟨24, 2, [.agg [.int .i64 p1.Low, .int .i64 p1.High]], 0⟩, ⟨51, 2, [.agg [.vs 1 (List.map (PV.int .u8) x3.1.l), .int .i64 x3.1.at_]], 0⟩, ⟨24, 2, [.agg [.int .i64 x3.2.Span.Low, .int .i64 x3.2.Span.High]], 0⟩])] rfl rfl (all1 (VRd.ntl (rd_pickF rfl rfl)) all0) ?_
        refine dops_rdW [(low, [⟨24, 2, [.agg [.int .i64 p1.Low, .int .i64 p1.High]], 0⟩, ⟨51, 2, [.agg [.vs 1 (List.map (PV.int .u8) x3.1.l), .int .i64 x3.1.at_]], 0⟩, ⟨24, 2, [.agg [.int .i64 x3.2.Span.Low, .int .i64 x3.2.Span.High]], 0⟩])] rfl rfl (all1 (VRd.ntl (rd_asB rfl)) all0) ?_
        refine dops_nil ?_
        refine vwp_ret ?_
        obtain rfl := Option.some.inj hF
        refine fnR ?_
        exact weak_pick rfl [] (by decide) ⟨rn_low rfl (.bool _), trivial⟩ trivial
    · have hF := bifF c11 hF
      refine vwp_drawn [[], [], [0, 1], [], [], [0, 1, 2, 3, 4], [0, 1, 2, 3, 4, 5], [0, 1, 2, 3, 4, 5, 6], [0, 1, 2, 3, 4, 5, 6, 7], [0, 1, 2, 3, 4, 5, 6, 7], [0, 1, 2, 3, 4, 5, 6, 7, 8, 9], [0, 1, 2, 3, 4, 5, 6, 7], [0, 1, 2, 3, 4, 5, 6, 7], [0, 1, 2, 3, 4, 5, 6, 7, 8, 9, 10, 11, 12], [0, 1, 2, 3, 4, 5, 6, 7, 8, 9, 10, 11, 12, 13], [0, 1, 2, 3, 4, 5, 6, 7, 8, 9, 10, 11, 12, 13, 14], [0, 1, 2, 3, 4, 5, 6, 7, 8, 9, 10, 11, 12, 13, 14, 15], [0, 1, 2, 3, 4, 5, 6, 7, 8, 9, 10, 11, 12, 13, 14, 15, 16], [0, 1, 2, 3, 4, 5, 6, 7, 8, 9, 10, 11, 12, 13, 14, 15, 16], [0, 1, 2, 3, 4, 5, 6, 7, 8, 9, 10, 11, 12, 13, 14, 15, 16, 18], [0, 1, 2, 3, 4, 5, 6, 7, 8, 9, 10, 11, 12, 13, 14, 15, 16, 17, 18, 19], [0, 1, 2, 3, 4, 5, 6, 7, 8, 9, 10, 11, 12, 13, 14, 15, 16], [0, 1, 2, 3, 4, 5, 6, 7, 8, 9, 10, 11, 12, 13, 14, 15, 16], [0, 1, 2, 3, 4, 5, 6, 7, 8, 9, 10, 11, 12, 13, 14, 15, 16, 22], [0, 1, 2, 3, 4, 5, 6, 7, 8, 9, 10, 11, 12, 13, 14, 15, 16, 17, 18, 19, 20, 21, 22, 23], [0, 1, 2, 3, 4, 5, 6, 7, 8, 9, 10, 11, 12, 13, 14, 15, 16, 17, 18, 19, 20, 21, 22, 23, 24], [0, 1, 2, 3, 4, 5, 6, 7, 8, 9, 10, 11, 12, 13, 14, 15, 16, 17, 18, 19, 20, 21, 22, 23, 24, 25], [0, 1, 2, 3, 4, 5, 6, 7, 8, 9, 10, 11, 12, 13, 14, 15, 16, 17, 18, 19, 20, 21, 22, 23, 24, 25, 26], [0, 1, 2, 3, 4, 5, 6, 7, 8, 9, 10, 11, 12, 13, 14, 15, 16, 17, 18, 19, 20, 21, 22, 23, 24, 25, 26, 27], [0, 1, 2, 3, 4, 5, 6, 7, 8, 9, 10, 11, 12, 13, 14, 15, 16, 17, 18, 19, 20, 21, 22, 23, 24, 25, 26, 27], [0, 1, 2, 3, 4, 5, 6, 7, 8, 9, 10, 11, 12, 13, 14, 15, 16, 17, 18, 19, 20, 21, 22, 23, 24, 25, 26, 27, 29], [0, 1, 2, 3, 4, 5, 6, 7, 8, 9, 10, 11, 12, 13, 14, 15, 16, 17, 18, 19, 20, 21, 22, 23, 24, 25, 26, 27, 28, 29, 30], [0, 1, 2, 3, 4, 5, 6, 7, 8, 9, 10, 11, 12, 13, 14, 15, 16, 17, 18, 19, 20, 21, 22, 23, 24, 25, 26, 27], [0, 1, 2, 3, 4, 5, 6, 7, 8, 9, 10, 11, 12, 13, 14, 15, 16, 17, 18, 19, 20, 21, 22, 23, 24, 25, 26, 27], [0, 1, 2, 3, 4, 5, 6, 7, 8, 9, 10, 11, 12, 13, 14, 15, 16, 17, 18, 19, 20, 21, 22, 23, 24, 25, 26, 27, 33], [0, 1, 2, 3, 4, 5, 6, 7, 8, 9, 10, 11, 12, 13, 14, 15, 16, 17, 18, 19, 20, 21, 22, 23, 24, 25, 26, 27, 28, 29, 30, 31, 32, 33, 34], [0, 1, 2, 3, 4, 5, 6, 7, 8, 9, 10, 11, 12, 13, 14, 15, 16, 17, 18, 19, 20, 21, 22, 23, 24, 25, 26, 27, 28, 29, 30, 31, 32, 33, 34, 35], [0, 1, 2, 3, 4, 5, 6, 7, 8, 9, 10, 11, 12, 13, 14, 15, 16, 17, 18, 19, 20, 21, 22, 23, 24, 25, 26, 27, 28, 29, 30, 31, 32, 33, 34, 35, 36], [0, 1, 2, 3, 4, 5, 6, 7, 8, 9, 10, 11, 12, 13, 14, 15, 16, 17, 18, 19, 20, 21, 22, 23, 24, 25, 26, 27, 28, 29, 30, 31, 32, 33, 34, 35, 36, 37], [0, 1, 2, 3, 4, 5, 6, 7, 8, 9, 10, 11, 12, 13, 14, 15, 16, 17, 18, 19, 20, 21, 22, 23, 24, 25, 26, 27, 28, 29, 30, 31, 32, 33, 34, 35, 36, 37, 38], [0, 1, 2, 3, 4, 5, 6, 7, 8, 9, 10, 11, 12, 13, 14, 15, 16, 17, 18, 19, 20, 21, 22, 23, 24, 25, 26, 27, 28, 29, 30, 31, 32, 33, 34, 35, 36, 37, 38, 39], [0, 1, 2, 3, 4, 5, 6, 7, 8, 9, 10, 11, 12, 13, 14, 15, 16, 17, 18, 19, 20, 21, 22, 23, 24, 25, 26, 27, 28, 29, 30, 31, 32, 33, 34, 35, 36, 37, 38, 39, 40]] [false, false, false, false, false, false, false, false, false, false, false, false, false, false, false, false, false, false, false, false, false, false, false, false, false, false, false, false, false, false, false, false, false, false, false, false, false, false, false, false, false, false] [(low, [⟨24, 2, [.agg [.int .i64 p1.Low, .int .i64 p1.High]], 0⟩, ⟨51, 2, [.agg [.vs 1 (List.map (PV.int .u8) x3.1.l), .int .i64 x3.1.at_]], 0⟩, ⟨24, 2, [.agg [.int .i64 x3.2.Span.Low, .int .i64 x3.2.Span.High]], 0⟩])] mixed (by kernel_rfl) rfl (lenAll (all1 rfl all0)) rfl (low, [⟨24, 2, [.agg [.int .i64 p1.Low, .int .i64 p1.High]], 0⟩, ⟨51, 2, [.agg [.vs 1 (List.map (PV.int .u8) x3.1.l), .int .i64 x3.1.at_]], 0⟩, ⟨24, 2, [.agg [.int .i64 x3.2.Span.Low, .int .i64 x3.2.Span.High]], 0⟩]) rfl rfl ?_
      refine dops_rdW [(low, [⟨24, 2, [.agg [.int .i64 p1.Low, .int .i64 p1.High]], 0⟩, ⟨51, 2, [.agg [.vs 1 (List.map (PV.int .u8) x3.1.l), .int .i64 x3.1.at_]], 0⟩, ⟨24, 2, [.agg [.int .i64 x3.2.Span.Low, .int .i64 x3.2.Span.High]], 0⟩])] rfl rfl (all1 (VRd.ntl (rd_loadN (ds := [.int .i64 p1.Low, .int .i64 p1.High]) rfl (getO_N rfl rfl) rfl ta_24 ts_24 rfl rfl rfl)) all0) ?_
      refine dops_rdW [(low, [⟨24, 2, [.agg [.int .i64 p1.Low, .int .i64 p1.High]], 0⟩, ⟨51, 2, [.agg [.vs 1 (List.map (PV.int .u8) x3.1.l), .int .i64 x3.1.at_]], 0⟩, ⟨24, 2, [.agg [.int .i64 x3.2.Span.Low, .int .i64 x3.2.Span.High]], 0⟩])] rfl rfl (all1 (VRd.ntl (rd_mvI rfl)) all0) ?_
      refine dops_rdW [(low, [⟨24, 2, [.agg [.int .i64 p1.Low, .int .i64 p1.High]], 0⟩, ⟨51, 2, [.agg [.vs 1 (List.map (PV.int .u8) x3.1.l), .int .i64 x3.1.at_]], 0⟩, ⟨24, 2, [.agg [.int .i64 x3.2.Span.Low, .int .i64 x3.2.Span.High]], 0⟩])] rfl rfl (all1 (nt_of (vef_callP rfl Try.call11 (F_window_Above_ok h8 _))) all0) ?_
      refine dops_rdW [(low, [⟨24, 2, [.agg [.int .i64 p1.Low, .int .i64 p1.High]], 0⟩, ⟨51, 2, [.agg [.vs 1 (List.map (PV.int .u8) x3.1.l), .int .i64 x3.1.at_]], 0⟩, ⟨24, 2, [.agg [.int .i64 x3.2.Span.Low, .int .i64 x3.2.Span.High]], 0⟩])] rfl rfl (all1 (VRd.ntl (rd_loadN (ds := [.int .i64 p1.Low, .int .i64 p1.High]) rfl (getO_N rfl rfl) rfl ta_24 ts_24 rfl rfl rfl)) all0) ?_
      refine dops_rdW [(low, [⟨24, 2, [.agg [.int .i64 p1.Low, .int .i64 p1.High]], 0⟩, ⟨51, 2, [.agg [.vs 1 (List.map (PV.int .u8) x3.1.l), .int .i64 x3.1.at_]], 0⟩, ⟨24, 2, [.agg [.int .i64 x3.2.Span.Low, .int .i64 x3.2.Span.High]], 0⟩])] rfl rfl (all1 (VRd.ntl (rd_mvI rfl)) all0) ?_
      refine dops_rdW [(low, [⟨24, 2, [.agg [.int .i64 p1.Low, .int .i64 p1.High]], 0⟩, ⟨51, 2, [.agg [.vs 1 (List.map (PV.int .u8) x3.1.l), .int .i64 x3.1.at_]], 0⟩, ⟨24, 2, [.agg [.int .i64 x3.2.Span.Low, .int .i64 x3.2.Span.High]], 0⟩])] rfl rfl (all1 (nt_of (vef_callP rfl Try.call12 (F_ref06_Above_ok h10 _))) all0) ?_
      refine dops_rdW [(low, [⟨24, 2, [.agg [.int .i64 p1.Low, .int .i64 p1.High]], 0⟩, ⟨51, 2, [.agg [.vs 1 (List.map (PV.int .u8) x3.1.l), .int .i64 x3.1.at_]], 0⟩, ⟨24, 2, [.agg [.int .i64 x3.2.Span.Low, .int .i64 x3.2.Span.High]], 0⟩])] rfl rfl (all1 (VRd.ntl (rd_eql rfl rfl)) all0) ?_
      refine dops_rdW [(low, [⟨24, 2, [.agg [.int .i64 p1.Low, .int .i64 p1.High]], 0⟩, ⟨51, 2, [.agg [.vs 1 (List.map (PV.int .u8) x3.1.l), .int .i64 x3.1.at_]], 0⟩, ⟨24, 2, [.agg [.int .i64 x3.2.Span.Low, .int .i64 x3.2.Span.High]], 0⟩])] rfl rfl (all1 (VRd.ntl (rd_mvB rfl)) all0) ?_
      refine dops_skip rfl rfl rfl (neF c11) ?_
      refine dops_skip rfl rfl rfl (neF c11) ?_
      refine dops_skip rfl rfl rfl (neF c11) ?_
      refine dops_skip rfl rfl rfl (neF c11) ?_
      refine dops_skip rfl rfl rfl (neF c11) ?_
      refine dops_skip rfl rfl rfl (neF c11) ?_
      refine dops_skip rfl rfl rfl (neF c11) ?_
      refine dops_rdW [(low, [⟨24, 2, [.agg [.int .i64 p1.Low, .int .i64 p1.High]], 0⟩, ⟨51, 2, [.agg [.vs 1 (List.map (PV.int .u8) x3.1.l), .int .i64 x3.1.at_]], 0⟩, ⟨24, 2, [.agg [.int .i64 x3.2.Span.Low, .int .i64 x3.2.Span.High]], 0⟩])] rfl rfl (all1 (VRd.ntl (rd_pickF (congrArg PV.bool c11) rfl)) all0) ?_
      refine dops_rdW [(low, [⟨24, 2, [.agg [.int .i64 p1.Low, .int .i64 p1.High]], 0⟩, ⟨51, 2, [.agg [.vs 1 (List.map (PV.int .u8) x3.1.l), .int .i64 x3.1.at_]], 0⟩, ⟨24, 2, [.agg [.int .i64 x3.2.Span.Low, .int .i64 x3.2.Span.High]], 0⟩])] rfl rfl (all1 (VRd.ntl (rd_mvB rfl)) all0) ?_
      refine dops_skip rfl rfl rfl (by decide) ?_
      refine dops_skip rfl rfl rfl (by decide) ?_
      refine dops_skip rfl rfl rfl (by decide) ?_
      refine dops_skip rfl rfl rfl (by decide) ?_
      refine dops_skip rfl rfl rfl (by decide) ?_
      refine dops_skip rfl rfl rfl (by decide) ?_
      refine dops_skip rfl rfl rfl (by decide) ?_
      refine dops_skip rfl rfl rfl (by decide) ?_
      refine dops_skip rfl rfl rfl (by decide) ?_
      refine dops_rdW [(low, [⟨24, 2, [.agg [.int .i64 p1.Low, .int .i64 p1.High]], 0⟩, ⟨51, 2, [.agg [.vs 1 (List.map (PV.int .u8) x3.1.l), .int .i64 x3.1.at_]], 0⟩, ⟨24, 2, [.agg [.int .i64 x3.2.Span.Low, .int .i64 x3.2.Span.High]], 0⟩])] rfl rfl (all1 (VRd.ntl (rd_pickF rfl rfl)) all0) ?_
      refine dops_rdW [(low, [⟨24, 2, [.agg [.int .i64 p1.Low, .int .i64 p1.High]], 0⟩, ⟨51, 2, [.agg [.vs 1 (List.map (PV.int .u8) x3.1.l), .int .i64 x3.1.at_]], 0⟩, ⟨24, 2, [.agg [.int .i64 x3.2.Span.Low, .int .i64 x3.2.Span.High]], 0⟩])] rfl rfl (all1 (VRd.ntl (rd_mvB rfl)) all0) ?_
      refine dops_skip rfl rfl rfl (by decide) ?_
      refine dops_skip rfl rfl rfl (by decide) ?_
      refine dops_skip rfl rfl rfl (by decide) ?_
      refine dops_skip rfl rfl rfl (by decide) ?_
      refine dops_skip rfl rfl rfl (by decide) ?_
      refine dops_skip rfl rfl rfl (by decide) ?_
      refine dops_skip rfl rfl rfl (by decide) ?_
      refine dops_skip rfl rfl rfl (by decide) ?_
      refine dops_skip rfl rfl rfl (by decide) ?_
      refine dops_rdW [(low, [⟨24, 2, [.agg [.int .i64 p1.Low, .int .i64 p1.High]], 0⟩, ⟨51, 2, [.agg [.vs 1 (List.map (PV.int .u8) x3.1.l), .int .i64 x3.1.at_]], 0⟩, ⟨24, 2, [.agg [.int .i64 x3.2.Span.Low, .int .i64 x3.2.Span.High]], 0⟩])] rfl rfl (all1 (VRd.ntl (rd_pickF rfl rfl)) all0) ?_
      refine dops_rdW [(low, [⟨24, 2, [.agg [.int .i64 p1.Low, .int .i64 p1.High]], 0⟩, ⟨51, 2, [.agg [.vs 1 (List.map (PV.int .u8) x3.1.l), .int .i64 x3.1.at_]], 0⟩, ⟨24, 2, [.agg [.int .i64 x3.2.Span.Low, .int .i64 x3.2.Span.High]], 0⟩])] rfl rfl (all1 (VRd.ntl (rd_mvB rfl)) all0) ?_
      refine dops_skip rfl rfl rfl (by decide) ?_
      refine dops_rdW [(low, [⟨24, 2, [.agg [.int .i64 p1.Low, .int .i64 p1.High]], 0⟩, ⟨51, 2, [.agg [.vs 1 (List.map (PV.int .u8) x3.1.l), .int .i64 x3.1.at_]], 0⟩, ⟨24, 2, [.agg [.int .i64 x3.2.Span.Low, .int .i64 x3.2.Span.High]], 0⟩])] rfl rfl (all1 (VRd.ntl (rd_pickF rfl rfl)) all0) ?_
      refine dops_rdW [(low, [⟨24, 2, [.agg [.int .i64 p1.Low, .int .i64 p1.High]], 0⟩, ⟨51, 2, [.agg [.vs 1 (List.map (PV.int .u8) x3.1.l), .int .i64 x3.1.at_]], 0⟩, ⟨24, 2, [.agg [.int .i64 x3.2.Span.Low, .int .i64 x3.2.Span.High]], 0⟩])] rfl rfl (all1 (VRd.ntl (rd_asB rfl)) all0) ?_
      refine dops_nil ?_
      refine vwp_ret ?_
      obtain rfl := Option.some.inj hF
      refine fnR ?_
      exact weak_pick rfl [] (by decide) ⟨rn_low rfl (.bool _), trivial⟩ trivial
  · rintro _ _ _ _ ⟨he, hw⟩
    refine ⟨_, _, _, hw, ?_⟩
    exact bodyQ_pure he [.bool r] ⟨rfl, trivial⟩ (.bool _) ⟨rfl, rfl⟩

theorem F_ref05_Stately_ok {p0 : Int} {r : Bool} (hF : F_ref05_Stately p0 = some r) (low : List AObj) :
    VCalls Try.prog 26 [.int .i64 p0] low fun x low' => x = .bool r ∧ low' = low := by
  refine vcalls_of_body (nt := 5) (rs := [.tmp 2]) Try.func26 rfl rfl (Nat.le_of_ble_eq_true rfl) rfl ?_
  refine vwp_monoW (Q' := FnE (fun E' lw lc => Weak E' lw lc [(2, .bool r)] low [])) ?_ ?_
  · unfold F_ref05_Stately at hF
    refine vwp_seq ?_
    refine vwp_region ?_
    refine vops_rd (rd_asB rfl) rfl ?_
    refine vops_nil ?_
    refine vwp_seq ?_
    refine vwp_region ?_
    refine vops_rd (rd_mvI rfl) rfl ?_
    refine vops_rd (rd_geq rfl rfl) rfl ?_
    refine vops_rd (rd_asB rfl) rfl ?_
    refine vops_nil ?_
    refine vwp_ret ?_
    obtain rfl := Option.some.inj hF
    refine fnR ?_
    exact weak_sub ⟨rfl, trivial⟩
  · rintro _ _ _ _ ⟨he, hw⟩
    refine ⟨_, _, _, hw, ?_⟩
    exact bodyQ_pure he [.bool r] ⟨rfl, trivial⟩ (.bool _) ⟨rfl, rfl⟩

theorem F_draw_Codes_Sensor_ok0 {p0 : T_draw_Codes} {p1 : Int} {p2 : Int} {p3 : Int} {r : T_draw_Codes × T_Sensor} (hF : F_draw_Codes_Sensor p0 p1 p2 p3 = some r) {low0 : List AObj} {q0 w0 : Nat} (hq0 : q0 < low0.length) :
    VCalls Try.prog 14 [.ptr q0 w0 0 0, .int .i64 p1, .int .i64 p2, .int .i64 p3] (low0.set q0 ⟨51, 2, [.agg [.vs 1 (List.map (PV.int .u8) p0.l), .int .i64 p0.at_]], w0⟩) fun x low' => x = .agg [.int .i64 r.2.Address, .int .i64 r.2.Kind, .int .i64 r.2.Target, .int .i64 r.2.Offset, .int .i64 r.2.Scale, .int .i64 r.2.Error, .int .i64 r.2.Drift, .int .i64 r.2.Life] ∧ low' = low0.set q0 ⟨51, 2, [.agg [.vs 1 (List.map (PV.int .u8) r.1.l), .int .i64 r.1.at_]], w0⟩ := by
  refine vcalls_of_body (nt := 32) (rs := [.cell 8 35]) Try.func14 rfl rfl (Nat.le_of_ble_eq_true rfl) rfl ?_
  refine vwp_monoW (Q' := FnE (fun E' lw lc => Weak E' lw lc [(8, .ptr (low0.length + 0) 0 0 0)] (low0.set q0 ⟨51, 2, [.agg [.vs 1 (List.map (PV.int .u8) r.1.l), .int .i64 r.1.at_]], w0⟩) [⟨35, 8, [.agg [.int .i64 r.2.Address, .int .i64 r.2.Kind, .int .i64 r.2.Target, .int .i64 r.2.Offset, .int .i64 r.2.Scale, .int .i64 r.2.Error, .int .i64 r.2.Drift, .int .i64 r.2.Life]], 0⟩])) ?_ ?_
  · unfold F_draw_Codes_Sensor at hF
    refine vwp_seq ?_
    refine vwp_region ?_
    refine vops_efE (vef_allocN List.length_set rfl tz_35 rfl rfl (Nat.succ_pos _) rfl) rfl ?_
    refine vops_nil ?_
    refine vwp_seq ?_
    refine vwp_region ?_
    obtain ⟨x1, h2, hF⟩ := bnd hF
    refine vops_rd (rd_mvI rfl) rfl ?_
    refine vops_rd (rd_mvI rfl) rfl ?_
    refine vops_rd (rd_mvI rfl) rfl ?_
    refine vops_rd (rd_mvP rfl) rfl ?_
    refine vops_efE (vef_callL hq0 (o' := ⟨51, 2, [.agg [.vs 1 (List.map (PV.int .u8) x1.1.l), .int .i64 x1.1.at_]], w0⟩) (ltObj_es ⟨(lt_agg ⟨.vs _ _, .int _ _, trivial⟩), trivial⟩) rfl Try.call15 (F_draw_Codes_Range_ok h2 (get_low hq0))) rfl ?_
    refine vops_rd (rd_build (vs := [(1, .int .i64 p1), (0, .int .i64 p2), (2, .int .i64 p3), (4, .int .i64 1000), (7, .int .i64 x1.2)]) (ds := [.int .i64 p2, .int .i64 p1, .int .i64 p3, .int .i64 0, .int .i64 1000, .int .i64 0, .int .i64 0, .int .i64 x1.2]) tz_35 rfl rfl tp_35 ⟨rfl, rfl, rfl, rfl, rfl, rfl, rfl, rfl, rfl, rfl, trivial⟩ (nt_all2 rfl) rfl) rfl ?_
    refine vops_efE (vef_allocN List.length_set rfl tz_35 rfl rfl (Nat.succ_pos _) rfl) rfl ?_
    refine vops_efE (vef_store (p := .agg [.int .i64 p2, .int .i64 p1, .int .i64 p3, .int .i64 0, .int .i64 1000, .int .i64 0, .int .i64 0, .int .i64 x1.2]) (e' := .agg [.int .i64 p2, .int .i64 p1, .int .i64 p3, .int .i64 0, .int .i64 1000, .int .i64 0, .int .i64 0, .int .i64 x1.2]) rfl (getO_N List.length_set rfl) rfl rfl ts_35 rfl (nt_ne rfl) rfl (Nat.le_of_ble_eq_true rfl) rfl (setO_N List.length_set rfl)) rfl ?_
    refine vops_nil ?_
    refine vwp_seq ?_
    refine vwp_seq ?_
    refine vwp_region ?_
    obtain ⟨x3, h4, hF⟩ := bnd hF
    refine vops_rd (rd_mvI rfl) rfl ?_
    refine vops_efE (vef_callP rfl Try.call26 (F_ref05_Stately_ok h4 _)) rfl ?_
    refine vops_rd (rd_not rfl) rfl ?_
    refine vops_nil ?_
    obtain ⟨o5, ho5, hF⟩ := bnd hF
    refine vwp_monoW (Q' := (fun o5 => OnlyE .normal (fun E' lw lc => Weak E' lw lc [(8, .ptr (low0.length + 0) 0 0 0), (9, .ptr (low0.length + 1) 0 0 0)] (low0.set q0 ⟨51, 2, [.agg [.vs 1 (List.map (PV.int .u8) o5.2.l), .int .i64 o5.2.at_]], w0⟩) [⟨35, 8, [.agg [.int .i64 0, .int .i64 0, .int .i64 0, .int .i64 0, .int .i64 0, .int .i64 0, .int .i64 0, .int .i64 0]], 0⟩, ⟨35, 8, [.agg [.int .i64 o5.1.Address, .int .i64 o5.1.Kind, .int .i64 o5.1.Target, .int .i64 o5.1.Offset, .int .i64 o5.1.Scale, .int .i64 o5.1.Error, .int .i64 o5.1.Drift, .int .i64 o5.1.Life]], 0⟩])) o5) ?_ ?_
    · replace hF := ho5
      refine vwp_cond rfl (fun c6 => ?_) (fun c6 => ?_)
      · have hF := bifT c6 hF
        refine vwp_seq ?_
        refine vwp_region ?_
        obtain ⟨x7, h8, hF⟩ := bnd hF
        obtain ⟨x9, h10, hF⟩ := bnd hF
        refine vops_rd (rd_mvP rfl) rfl ?_
        refine vops_efE (vef_callL hq0 (o' := ⟨51, 2, [.agg [.vs 1 (List.map (PV.int .u8) x7.1.l), .int .i64 x7.1.at_]], w0⟩) (ltObj_es ⟨(lt_agg ⟨.vs _ _, .int _ _, trivial⟩), trivial⟩) rfl Try.call15 (F_draw_Codes_Range_ok h8 (get_low hq0))) rfl ?_
        refine vops_rd (rd_mvP rfl) rfl ?_
        refine vops_efE (vef_callL hq0 (o' := ⟨51, 2, [.agg [.vs 1 (List.map (PV.int .u8) x9.1.l), .int .i64 x9.1.at_]], w0⟩) (ltObj_es ⟨(lt_agg ⟨.vs _ _, .int _ _, trivial⟩), trivial⟩) rfl Try.call15 (F_draw_Codes_Range_ok h10 (get_low hq0))) rfl ?_
        refine vops_rd (rd_fieldAddr rfl tf_35_3 ts_3 (by decide)) rfl ?_
        refine vops_efE (vef_store (p := .int .i64 x7.2) (e' := .agg [.int .i64 p2, .int .i64 p1, .int .i64 p3, .int .i64 x7.2, .int .i64 1000, .int .i64 0, .int .i64 0, .int .i64 x1.2]) rfl (getO_N List.length_set rfl) rfl rfl ts_3 rfl (nt_ne rfl) rfl (Nat.le_of_ble_eq_true rfl) rfl (setO_N List.length_set rfl)) rfl ?_
        refine vops_rd (rd_fieldAddr rfl tf_35_4 ts_3 (by decide)) rfl ?_
        refine vops_efE (vef_store (p := .int .i64 x9.2) (e' := .agg [.int .i64 p2, .int .i64 p1, .int .i64 p3, .int .i64 x7.2, .int .i64 x9.2, .int .i64 0, .int .i64 0, .int .i64 x1.2]) rfl (getO_N List.length_set rfl) rfl rfl ts_3 rfl (nt_ne rfl) rfl (Nat.le_of_ble_eq_true rfl) rfl (setO_N List.length_set rfl)) rfl ?_
        refine vops_nil ?_
        refine vwp_region ?_
        obtain ⟨x11, h12, hF⟩ := bnd hF
        obtain ⟨x13, h14, hF⟩ := bnd hF
        refine vops_rd (rd_mvP rfl) rfl ?_
        refine vops_efE (vef_callL hq0 (o' := ⟨51, 2, [.agg [.vs 1 (List.map (PV.int .u8) x11.1.l), .int .i64 x11.1.at_]], w0⟩) (ltObj_es ⟨(lt_agg ⟨.vs _ _, .int _ _, trivial⟩), trivial⟩) rfl Try.call20 (F_draw_Codes_Next_ok h12 (get_low hq0))) rfl ?_
        refine vops_rd (rd_mvP rfl) rfl ?_
        refine vops_efE (vef_callL hq0 (o' := ⟨51, 2, [.agg [.vs 1 (List.map (PV.int .u8) x13.1.l), .int .i64 x13.1.at_]], w0⟩) (ltObj_es ⟨(lt_agg ⟨.vs _ _, .int _ _, trivial⟩), trivial⟩) rfl Try.call20 (F_draw_Codes_Next_ok h14 (get_low hq0))) rfl ?_
        refine vops_rd (rd_fieldAddr rfl tf_35_5 ts_3 (by decide)) rfl ?_
        refine vops_efE (vef_store (p := .int .i64 x11.2) (e' := .agg [.int .i64 p2, .int .i64 p1, .int .i64 p3, .int .i64 x7.2, .int .i64 x9.2, .int .i64 x11.2, .int .i64 0, .int .i64 x1.2]) rfl (getO_N List.length_set rfl) rfl rfl ts_3 rfl (nt_ne rfl) rfl (Nat.le_of_ble_eq_true rfl) rfl (setO_N List.length_set rfl)) rfl ?_
        refine vops_rd (rd_fieldAddr rfl tf_35_6 ts_3 (by decide)) rfl ?_
        refine vops_efE (vef_store (p := .int .i64 x13.2) (e' := .agg [.int .i64 p2, .int .i64 p1, .int .i64 p3, .int .i64 x7.2, .int .i64 x9.2, .int .i64 x11.2, .int .i64 x13.2, .int .i64 x1.2]) rfl (getO_N List.length_set rfl) rfl rfl ts_3 rfl (nt_ne rfl) rfl (Nat.le_of_ble_eq_true rfl) rfl (setO_N List.length_set rfl)) rfl ?_
        refine vops_nil ?_
        obtain rfl := Option.some.inj hF
        refine onlyE ?_
        exact weak_sub ⟨rfl, rfl, trivial⟩
      · have hF := bifF c6 hF
        refine vwp_skip ?_
        obtain rfl := Option.some.inj hF
        refine onlyE ?_
        exact weak_sub ⟨rfl, rfl, trivial⟩
    · rintro _ _ _ _ ⟨rfl, hw⟩
      refine ⟨_, _, _, hw, ?_⟩
      refine vwp_seq ?_
      refine vwp_region ?_
      refine vops_rd (rd_loadN (ds := [.int .i64 o5.1.Address, .int .i64 o5.1.Kind, .int .i64 o5.1.Target, .int .i64 o5.1.Offset, .int .i64 o5.1.Scale, .int .i64 o5.1.Error, .int .i64 o5.1.Drift, .int .i64 o5.1.Life]) rfl (getO_N List.length_set rfl) rfl ta_35 ts_35 rfl rfl rfl) rfl ?_
      refine vops_efE (vef_store (p := .agg [.int .i64 o5.1.Address, .int .i64 o5.1.Kind, .int .i64 o5.1.Target, .int .i64 o5.1.Offset, .int .i64 o5.1.Scale, .int .i64 o5.1.Error, .int .i64 o5.1.Drift, .int .i64 o5.1.Life]) (e' := .agg [.int .i64 o5.1.Address, .int .i64 o5.1.Kind, .int .i64 o5.1.Target, .int .i64 o5.1.Offset, .int .i64 o5.1.Scale, .int .i64 o5.1.Error, .int .i64 o5.1.Drift, .int .i64 o5.1.Life]) rfl (getO_N List.length_set rfl) rfl rfl ts_35 rfl (nt_ne rfl) rfl (Nat.le_of_ble_eq_true rfl) rfl (setO_N List.length_set rfl)) rfl ?_
      refine vops_nil ?_
      refine vwp_ret ?_
      obtain rfl := Option.some.inj hF
      refine fnR ?_
      exact weak_pick List.length_set [(0, 0)] (by decide) ⟨rn_ptr 0 0 rfl rfl, trivial⟩ ⟨⟨_, rfl, rfl, .same _ _ _ _ (ltObj_es ⟨(lt_agg ⟨.int _ _, .int _ _, .int _ _, .int _ _, .int _ _, .int _ _, .int _ _, .int _ _, trivial⟩), trivial⟩)⟩, trivial⟩
  · rintro _ _ _ _ ⟨he, hw⟩
    refine ⟨_, _, _, hw, ?_⟩
    exact bodyQ_pure he [.agg [.int .i64 r.2.Address, .int .i64 r.2.Kind, .int .i64 r.2.Target, .int .i64 r.2.Offset, .int .i64 r.2.Scale, .int .i64 r.2.Error, .int .i64 r.2.Drift, .int .i64 r.2.Life]] ⟨rd_loadN rfl (getO_N List.length_set rfl) rfl ta_35 ts_35 rfl rfl rfl, trivial⟩ ((lt_agg ⟨.int _ _, .int _ _, .int _ _, .int _ _, .int _ _, .int _ _, .int _ _, .int _ _, trivial⟩)) ⟨rfl, rfl⟩

theorem F_draw_Codes_Sensor_ok {p0 : T_draw_Codes} {p1 : Int} {p2 : Int} {p3 : Int} {r : T_draw_Codes × T_Sensor} (hF : F_draw_Codes_Sensor p0 p1 p2 p3 = some r) {low : List AObj} {q0 w0 : Nat} (hq0 : low[q0]? = some ⟨51, 2, [.agg [.vs 1 (List.map (PV.int .u8) p0.l), .int .i64 p0.at_]], w0⟩) :
    VCalls Try.prog 14 [.ptr q0 w0 0 0, .int .i64 p1, .int .i64 p2, .int .i64 p3] low fun x low' => x = .agg [.int .i64 r.2.Address, .int .i64 r.2.Kind, .int .i64 r.2.Target, .int .i64 r.2.Offset, .int .i64 r.2.Scale, .int .i64 r.2.Error, .int .i64 r.2.Drift, .int .i64 r.2.Life] ∧ low' = low.set q0 ⟨51, 2, [.agg [.vs 1 (List.map (PV.int .u8) r.1.l), .int .i64 r.1.at_]], w0⟩ := by
  obtain ⟨h1, h2⟩ := low_set hq0
  have h := F_draw_Codes_Sensor_ok0 hF (w0 := w0) h1
  rw [← h2] at h
  exact h

theorem F_ref05_in_ok {p0 : Int} {p1 : Int} {p2 : Int} {r : Bool} (hF : F_ref05_in p0 p1 p2 = some r) (low : List AObj) :
    VCalls Try.prog 33 [.int .i64 p0, .int .i64 p1, .int .i64 p2] low fun x low' => x = .bool r ∧ low' = low := by
  refine vcalls_of_body (nt := 15) (rs := [.tmp 6]) Try.func33 rfl rfl (Nat.le_of_ble_eq_true rfl) rfl ?_
  refine vwp_monoW (Q' := FnE (fun E' lw lc => Weak E' lw lc [(6, .bool r)] low [])) ?_ ?_
  · unfold F_ref05_in at hF
    refine vwp_seq ?_
    refine vwp_region ?_
    refine vops_rd (rd_asB rfl) rfl ?_
    refine vops_nil ?_
    refine vwp_seq ?_
    refine vwp_region ?_
    rcases Bool.eq_false_or_eq_true (decide (p1 ≤ p0)) with c1 | c1
    · have hF := bifT c1 hF
      refine vops_rd (rd_mvI rfl) rfl ?_
      refine vops_rd (rd_mvI rfl) rfl ?_
      refine vops_rd (rd_leq rfl rfl) rfl ?_
      refine vops_rd (rd_mvB rfl) rfl ?_
      refine vops_take rfl (congrArg PV.bool c1) ?_
      refine vops_rd (rd_mvI rfl) rfl ?_
      refine vops_take rfl (congrArg PV.bool c1) ?_
      refine vops_rd (rd_mvI rfl) rfl ?_
      refine vops_take rfl (congrArg PV.bool c1) ?_
      refine vops_rd (rd_leq rfl rfl) rfl ?_
      refine vops_rd (rd_pickT (congrArg PV.bool c1) rfl) rfl ?_
      refine vops_rd (rd_asB rfl) rfl ?_
      refine vops_nil ?_
      refine vwp_ret ?_
      obtain rfl := Option.some.inj hF
      refine fnR ?_
      exact weak_sub ⟨rfl, trivial⟩
    · have hF := bifF c1 hF
      refine vops_rd (rd_mvI rfl) rfl ?_
      refine vops_rd (rd_mvI rfl) rfl ?_
      refine vops_rd (rd_leq rfl rfl) rfl ?_
      refine vops_rd (rd_mvB rfl) rfl ?_
      refine vops_skip rfl rfl (neF c1) rfl ?_
      refine vops_skip rfl rfl (neF c1) rfl ?_
      refine vops_skip rfl rfl (neF c1) rfl ?_
      refine vops_rd (rd_pickF (congrArg PV.bool c1) rfl) rfl ?_
      refine vops_rd (rd_asB rfl) rfl ?_
      refine vops_nil ?_
      refine vwp_ret ?_
      obtain rfl := Option.some.inj hF
      refine fnR ?_
      exact weak_sub ⟨rfl, trivial⟩
  · rintro _ _ _ _ ⟨he, hw⟩
    refine ⟨_, _, _, hw, ?_⟩
    exact bodyQ_pure he [.bool r] ⟨rfl, trivial⟩ (.bool _) ⟨rfl, rfl⟩

theorem F_ref05_Check_ok {p0 : T_Sensor} {r : Int} (hF : F_ref05_Check p0 = some r) (low : List AObj) :
    VCalls Try.prog 27 [.agg [.int .i64 p0.Address, .int .i64 p0.Kind, .int .i64 p0.Target, .int .i64 p0.Offset, .int .i64 p0.Scale, .int .i64 p0.Error, .int .i64 p0.Drift, .int .i64 p0.Life]] low fun x low' => x = .int .i64 r ∧ low' = low := by
  refine vcalls_of_body (nt := 46) (rs := [.tmp 2]) Try.func27 rfl rfl (Nat.le_of_ble_eq_true rfl) rfl ?_
  refine vwp_monoW (Q' := FnE (fun E' lw lc => Weak E' lw lc [(2, .int .i64 r)] low [])) ?_ ?_
  · unfold F_ref05_Check at hF
    refine vwp_seq ?_
    refine vwp_region ?_
    refine vops_efE (vef_boxN rfl rfl (v := .agg [.int .i64 p0.Address, .int .i64 p0.Kind, .int .i64 p0.Target, .int .i64 p0.Offset, .int .i64 p0.Scale, .int .i64 p0.Error, .int .i64 p0.Drift, .int .i64 p0.Life]) rfl rfl (Nat.succ_pos _) rfl rfl) rfl ?_
    refine vops_rd (rd_asI rfl) rfl ?_
    refine vops_nil ?_
    refine vwp_seq ?_
    refine vwp_seq ?_
    refine vwp_region ?_
    obtain ⟨x1, h2, hF⟩ := bnd hF
    refine vops_rd (rd_fieldAddr rfl tf_35_1 ts_3 (by decide)) rfl ?_
    refine vops_rd (rd_load1 rfl (getO_N rfl rfl) rfl ta_3 rfl) rfl ?_
    refine vops_efE (vef_callP rfl Try.call33 (F_ref05_in_ok h2 _)) rfl ?_
    refine vops_rd (rd_not rfl) rfl ?_
    refine vops_nil ?_
    refine vwp_cond rfl (fun c3 => ?_) (fun c3 => ?_)
    · have hF := bifT c3 hF
      refine vwp_seq ?_
      refine vwp_region ?_
      refine vops_rd (rd_asI rfl) rfl ?_
      refine vops_nil ?_
      refine vwp_ret ?_
      obtain rfl := Option.some.inj hF
      refine fnR ?_
      exact weak_pick rfl [] (by decide) ⟨rn_low rfl (.int _ _), trivial⟩ trivial
    · have hF := bifF c3 hF
      refine vwp_skip ?_
      refine vwp_seq ?_
      refine vwp_seq ?_
      obtain ⟨o4, ho4, hF⟩ := bnd hF
      refine vwp_monoW (Q' := (fun o4 => OnlyE .normal (fun E' lw lc => Weak E' lw lc [(45, .bool o4)] low [])) o4) ?_ ?_
      · replace hF := ho4
        refine vwp_region ?_
        obtain ⟨x5, h6, hF⟩ := bnd hF
        rcases Bool.eq_false_or_eq_true (!x5) with c7 | c7
        · have hF := bifT c7 hF
          refine vops_rd (rd_fieldAddr rfl tf_35_0 ts_3 (by decide)) rfl ?_
          refine vops_rd (rd_load1 rfl (getO_N rfl rfl) rfl ta_3 rfl) rfl ?_
          refine vops_efE (vef_callP rfl Try.call33 (F_ref05_in_ok h6 _)) rfl ?_
          refine vops_rd (rd_not rfl) rfl ?_
          refine vops_rd (rd_mvB rfl) rfl ?_
          refine vops_skip rfl rfl (neT c7) rfl ?_
          refine vops_skip rfl rfl (neT c7) rfl ?_
          refine vops_skip rfl rfl (neT c7) rfl ?_
          refine vops_rd (rd_pickT (congrArg PV.bool c7) rfl) rfl ?_
          refine vops_rd (rd_mvB rfl) rfl ?_
          refine vops_skip rfl rfl (by decide) rfl ?_
          refine vops_skip rfl rfl (by decide) rfl ?_
          refine vops_skip rfl rfl (by decide) rfl ?_
          refine vops_skip rfl rfl (by decide) rfl ?_
          refine vops_rd (rd_pickT rfl rfl) rfl ?_
          refine vops_rd (rd_mvB rfl) rfl ?_
          refine vops_skip rfl rfl (by decide) rfl ?_
          refine vops_skip rfl rfl (by decide) rfl ?_
          refine vops_skip rfl rfl (by decide) rfl ?_
          refine vops_skip rfl rfl (by decide) rfl ?_
          refine vops_rd (rd_pickT rfl rfl) rfl ?_
          refine vops_rd (rd_mvB rfl) rfl ?_
          refine vops_skip rfl rfl (by decide) rfl ?_
          refine vops_skip rfl rfl (by decide) rfl ?_
          refine vops_skip rfl rfl (by decide) rfl ?_
          refine vops_skip rfl rfl (by decide) rfl ?_
          refine vops_rd (rd_pickT rfl rfl) rfl ?_
          refine vops_rd (rd_mvB rfl) rfl ?_
          refine vops_skip rfl rfl (by decide) rfl ?_
          refine vops_skip rfl rfl (by decide) rfl ?_
          refine vops_skip rfl rfl (by decide) rfl ?_
          refine vops_skip rfl rfl (by decide) rfl ?_
          refine vops_rd (rd_pickT rfl rfl) rfl ?_
          refine vops_rd (rd_mvB rfl) rfl ?_
          refine vops_skip rfl rfl (by decide) rfl ?_
          refine vops_skip rfl rfl (by decide) rfl ?_
          refine vops_skip rfl rfl (by decide) rfl ?_
          refine vops_skip rfl rfl (by decide) rfl ?_
          refine vops_rd (rd_pickT rfl rfl) rfl ?_
          refine vops_nil ?_
          obtain rfl := Option.some.inj hF
          refine onlyE ?_
          exact weak_pick rfl [] (by decide) ⟨rn_low rfl (.bool _), trivial⟩ trivial
        · have hF := bifF c7 hF
          rcases Bool.eq_false_or_eq_true (decide (p0.Target < 0)) with c8 | c8
          · have hF := bifT c8 hF
            refine vops_rd (rd_fieldAddr rfl tf_35_0 ts_3 (by decide)) rfl ?_
            refine vops_rd (rd_load1 rfl (getO_N rfl rfl) rfl ta_3 rfl) rfl ?_
            refine vops_efE (vef_callP rfl Try.call33 (F_ref05_in_ok h6 _)) rfl ?_
            refine vops_rd (rd_not rfl) rfl ?_
            refine vops_rd (rd_mvB rfl) rfl ?_
            refine vops_take rfl (congrArg PV.bool c7) ?_
            refine vops_rd (rd_fieldAddr rfl tf_35_2 ts_3 (by decide)) rfl ?_
            refine vops_take rfl (congrArg PV.bool c7) ?_
            refine vops_rd (rd_load1 rfl (getO_N rfl rfl) rfl ta_3 rfl) rfl ?_
            refine vops_take rfl (congrArg PV.bool c7) ?_
            refine vops_rd (rd_lss rfl rfl) rfl ?_
            refine vops_rd (rd_pickF (congrArg PV.bool c7) rfl) rfl ?_
            refine vops_rd (rd_mvB rfl) rfl ?_
            refine vops_skip rfl rfl (neT c8) rfl ?_
            refine vops_skip rfl rfl (neT c8) rfl ?_
            refine vops_skip rfl rfl (neT c8) rfl ?_
            refine vops_skip rfl rfl (neT c8) rfl ?_
            refine vops_rd (rd_pickT (congrArg PV.bool c8) rfl) rfl ?_
            refine vops_rd (rd_mvB rfl) rfl ?_
            refine vops_skip rfl rfl (by decide) rfl ?_
            refine vops_skip rfl rfl (by decide) rfl ?_
            refine vops_skip rfl rfl (by decide) rfl ?_
            refine vops_skip rfl rfl (by decide) rfl ?_
            refine vops_rd (rd_pickT rfl rfl) rfl ?_
            refine vops_rd (rd_mvB rfl) rfl ?_
            refine vops_skip rfl rfl (by decide) rfl ?_
            refine vops_skip rfl rfl (by decide) rfl ?_
            refine vops_skip rfl rfl (by decide) rfl ?_
            refine vops_skip rfl rfl (by decide) rfl ?_
            refine vops_rd (rd_pickT rfl rfl) rfl ?_
            refine vops_rd (rd_mvB rfl) rfl ?_
            refine vops_skip rfl rfl (by decide) rfl ?_
            refine vops_skip rfl rfl (by decide) rfl ?_
            refine vops_skip rfl rfl (by decide) rfl ?_
            refine vops_skip rfl rfl (by decide) rfl ?_
            refine vops_rd (rd_pickT rfl rfl) rfl ?_
            refine vops_rd (rd_mvB rfl) rfl ?_
            refine vops_skip rfl rfl (by decide) rfl ?_
            refine vops_skip rfl rfl (by decide) rfl ?_
            refine vops_skip rfl rfl (by decide) rfl ?_
            refine vops_skip rfl rfl (by decide) rfl ?_
            refine vops_rd (rd_pickT rfl rfl) rfl ?_
            refine vops_nil ?_
            obtain rfl := Option.some.inj hF
            refine onlyE ?_
            exact weak_pick rfl [] (by decide) ⟨rn_low rfl (.bool _), trivial⟩ trivial
          · have hF := bifF c8 hF
            obtain ⟨x9, h10, hF⟩ := bnd hF
            rcases Bool.eq_false_or_eq_true (!x9) with c11 | c11
            · have hF := bifT c11 hF
              refine vops_rd (rd_fieldAddr rfl tf_35_0 ts_3 (by decide)) rfl ?_
              refine vops_rd (rd_load1 rfl (getO_N rfl rfl) rfl ta_3 rfl) rfl ?_
              refine vops_efE (vef_callP rfl Try.call33 (F_ref05_in_ok h6 _)) rfl ?_
              refine vops_rd (rd_not rfl) rfl ?_
              refine vops_rd (rd_mvB rfl) rfl ?_
              refine vops_take rfl (congrArg PV.bool c7) ?_
              refine vops_rd (rd_fieldAddr rfl tf_35_2 ts_3 (by decide)) rfl ?_
              refine vops_take rfl (congrArg PV.bool c7) ?_
              refine vops_rd (rd_load1 rfl (getO_N rfl rfl) rfl ta_3 rfl) rfl ?_
              refine vops_take rfl (congrArg PV.bool c7) ?_
              refine vops_rd (rd_lss rfl rfl) rfl ?_
              refine vops_rd (rd_pickF (congrArg PV.bool c7) rfl) rfl ?_
              refine vops_rd (rd_mvB rfl) rfl ?_
              refine vops_take rfl (congrArg PV.bool c8) ?_
              refine vops_rd (rd_fieldAddr rfl tf_35_3 ts_3 (by decide)) rfl ?_
              refine vops_take rfl (congrArg PV.bool c8) ?_
              refine vops_rd (rd_load1 rfl (getO_N rfl rfl) rfl ta_3 rfl) rfl ?_
              refine vops_take rfl (congrArg PV.bool c8) ?_
              refine vops_efE (vef_callP rfl Try.call33 (F_ref05_in_ok h10 _)) rfl ?_
              refine vops_take rfl (congrArg PV.bool c8) ?_
              refine vops_rd (rd_not rfl) rfl ?_
              refine vops_rd (rd_pickF (congrArg PV.bool c8) rfl) rfl ?_
              refine vops_rd (rd_mvB rfl) rfl ?_
              refine vops_skip rfl rfl (neT c11) rfl ?_
              refine vops_skip rfl rfl (neT c11) rfl ?_
              refine vops_skip rfl rfl (neT c11) rfl ?_
              refine vops_skip rfl rfl (neT c11) rfl ?_
              refine vops_rd (rd_pickT (congrArg PV.bool c11) rfl) rfl ?_
              refine vops_rd (rd_mvB rfl) rfl ?_
              refine vops_skip rfl rfl (by decide) rfl ?_
              refine vops_skip rfl rfl (by decide) rfl ?_
              refine vops_skip rfl rfl (by decide) rfl ?_
              refine vops_skip rfl rfl (by decide) rfl ?_
              refine vops_rd (rd_pickT rfl rfl) rfl ?_
              refine vops_rd (rd_mvB rfl) rfl ?_
              refine vops_skip rfl rfl (by decide) rfl ?_
              refine vops_skip rfl rfl (by decide) rfl ?_
              refine vops_skip rfl rfl (by decide) rfl ?_
              refine vops_skip rfl rfl (by decide) rfl ?_
              refine vops_rd (rd_pickT rfl rfl) rfl ?_
              refine vops_rd (rd_mvB rfl) rfl ?_
              refine vops_skip rfl rfl (by decide) rfl ?_
              refine vops_skip rfl rfl (by decide) rfl ?_
              refine vops_skip rfl rfl (by decide) rfl ?_
              refine vops_skip rfl rfl (by decide) rfl ?_
              refine vops_rd (rd_pickT rfl rfl) rfl ?_
              refine vops_nil ?_
              obtain rfl := Option.some.inj hF
              refine onlyE ?_
              exact weak_pick rfl [] (by decide) ⟨rn_low rfl (.bool _), trivial⟩ trivial
            · have hF := bifF c11 hF
              obtain ⟨x12, h13, hF⟩ := bnd hF
              rcases Bool.eq_false_or_eq_true (!x12) with c14 | c14
              · have hF := bifT c14 hF
                refine vops_rd (rd_fieldAddr rfl tf_35_0 ts_3 (by decide)) rfl ?_
                refine vops_rd (rd_load1 rfl (getO_N rfl rfl) rfl ta_3 rfl) rfl ?_
                refine vops_efE (vef_callP rfl Try.call33 (F_ref05_in_ok h6 _)) rfl ?_
                refine vops_rd (rd_not rfl) rfl ?_
                refine vops_rd (rd_mvB rfl) rfl ?_
                refine vops_take rfl (congrArg PV.bool c7) ?_
                refine vops_rd (rd_fieldAddr rfl tf_35_2 ts_3 (by decide)) rfl ?_
                refine vops_take rfl (congrArg PV.bool c7) ?_
                refine vops_rd (rd_load1 rfl (getO_N rfl rfl) rfl ta_3 rfl) rfl ?_
                refine vops_take rfl (congrArg PV.bool c7) ?_
                refine vops_rd (rd_lss rfl rfl) rfl ?_
                refine vops_rd (rd_pickF (congrArg PV.bool c7) rfl) rfl ?_
                refine vops_rd (rd_mvB rfl) rfl ?_
                refine vops_take rfl (congrArg PV.bool c8) ?_
                refine vops_rd (rd_fieldAddr rfl tf_35_3 ts_3 (by decide)) rfl ?_
                refine vops_take rfl (congrArg PV.bool c8) ?_
                refine vops_rd (rd_load1 rfl (getO_N rfl rfl) rfl ta_3 rfl) rfl ?_
                refine vops_take rfl (congrArg PV.bool c8) ?_
                refine vops_efE (vef_callP rfl Try.call33 (F_ref05_in_ok h10 _)) rfl ?_
                refine vops_take rfl (congrArg PV.bool c8) ?_
                refine vops_rd (rd_not rfl) rfl ?_
                refine vops_rd (rd_pickF (congrArg PV.bool c8) rfl) rfl ?_
                refine vops_rd (rd_mvB rfl) rfl ?_
                refine vops_take rfl (congrArg PV.bool c11) ?_
                refine vops_rd (rd_fieldAddr rfl tf_35_4 ts_3 (by decide)) rfl ?_
                refine vops_take rfl (congrArg PV.bool c11) ?_
                refine vops_rd (rd_load1 rfl (getO_N rfl rfl) rfl ta_3 rfl) rfl ?_
                refine vops_take rfl (congrArg PV.bool c11) ?_
                refine vops_efE (vef_callP rfl Try.call33 (F_ref05_in_ok h13 _)) rfl ?_
                refine vops_take rfl (congrArg PV.bool c11) ?_
                refine vops_rd (rd_not rfl) rfl ?_
                refine vops_rd (rd_pickF (congrArg PV.bool c11) rfl) rfl ?_
                refine vops_rd (rd_mvB rfl) rfl ?_
                refine vops_skip rfl rfl (neT c14) rfl ?_
                refine vops_skip rfl rfl (neT c14) rfl ?_
                refine vops_skip rfl rfl (neT c14) rfl ?_
                refine vops_skip rfl rfl (neT c14) rfl ?_
                refine vops_rd (rd_pickT (congrArg PV.bool c14) rfl) rfl ?_
                refine vops_rd (rd_mvB rfl) rfl ?_
                refine vops_skip rfl rfl (by decide) rfl ?_
                refine vops_skip rfl rfl (by decide) rfl ?_
                refine vops_skip rfl rfl (by decide) rfl ?_
                refine vops_skip rfl rfl (by decide) rfl ?_
                refine vops_rd (rd_pickT rfl rfl) rfl ?_
                refine vops_rd (rd_mvB rfl) rfl ?_
                refine vops_skip rfl rfl (by decide) rfl ?_
                refine vops_skip rfl rfl (by decide) rfl ?_
                refine vops_skip rfl rfl (by decide) rfl ?_
                refine vops_skip rfl rfl (by decide) rfl ?_
                refine vops_rd (rd_pickT rfl rfl) rfl ?_
                refine vops_nil ?_
                obtain rfl := Option.some.inj hF
                refine onlyE ?_
                exact weak_pick rfl [] (by decide) ⟨rn_low rfl (.bool _), trivial⟩ trivial
              · have hF := bifF c14 hF
                obtain ⟨x15, h16, hF⟩ := bnd hF
                rcases Bool.eq_false_or_eq_true (!x15) with c17 | c17
                · have hF := bifT c17 hF
                  refine vops_rd (rd_fieldAddr rfl tf_35_0 ts_3 (by decide)) rfl ?_
                  refine vops_rd (rd_load1 rfl (getO_N rfl rfl) rfl ta_3 rfl) rfl ?_
                  refine vops_efE (vef_callP rfl Try.call33 (F_ref05_in_ok h6 _)) rfl ?_
                  refine vops_rd (rd_not rfl) rfl ?_
                  refine vops_rd (rd_mvB rfl) rfl ?_
                  refine vops_take rfl (congrArg PV.bool c7) ?_
                  refine vops_rd (rd_fieldAddr rfl tf_35_2 ts_3 (by decide)) rfl ?_
                  refine vops_take rfl (congrArg PV.bool c7) ?_
                  refine vops_rd (rd_load1 rfl (getO_N rfl rfl) rfl ta_3 rfl) rfl ?_
                  refine vops_take rfl (congrArg PV.bool c7) ?_
                  refine vops_rd (rd_lss rfl rfl) rfl ?_
                  refine vops_rd (rd_pickF (congrArg PV.bool c7) rfl) rfl ?_
                  refine vops_rd (rd_mvB rfl) rfl ?_
                  refine vops_take rfl (congrArg PV.bool c8) ?_
                  refine vops_rd (rd_fieldAddr rfl tf_35_3 ts_3 (by decide)) rfl ?_
                  refine vops_take rfl (congrArg PV.bool c8) ?_
                  refine vops_rd (rd_load1 rfl (getO_N rfl rfl) rfl ta_3 rfl) rfl ?_
                  refine vops_take rfl (congrArg PV.bool c8) ?_
                  refine vops_efE (vef_callP rfl Try.call33 (F_ref05_in_ok h10 _)) rfl ?_
                  refine vops_take rfl (congrArg PV.bool c8) ?_
                  refine vops_rd (rd_not rfl) rfl ?_
                  refine vops_rd (rd_pickF (congrArg PV.bool c8) rfl) rfl ?_
                  refine vops_rd (rd_mvB rfl) rfl ?_
                  refine vops_take rfl (congrArg PV.bool c11) ?_
                  refine vops_rd (rd_fieldAddr rfl tf_35_4 ts_3 (by decide)) rfl ?_
                  refine vops_take rfl (congrArg PV.bool c11) ?_
                  refine vops_rd (rd_load1 rfl (getO_N rfl rfl) rfl ta_3 rfl) rfl ?_
                  refine vops_take rfl (congrArg PV.bool c11) ?_
                  refine vops_efE (vef_callP rfl Try.call33 (F_ref05_in_ok h13 _)) rfl ?_
                  refine vops_take rfl (congrArg PV.bool c11) ?_
                  refine vops_rd (rd_not rfl) rfl ?_
                  refine vops_rd (rd_pickF (congrArg PV.bool c11) rfl) rfl ?_
                  refine vops_rd (rd_mvB rfl) rfl ?_
                  refine vops_take rfl (congrArg PV.bool c14) ?_
                  refine vops_rd (rd_fieldAddr rfl tf_35_5 ts_3 (by decide)) rfl ?_
                  refine vops_take rfl (congrArg PV.bool c14) ?_
                  refine vops_rd (rd_load1 rfl (getO_N rfl rfl) rfl ta_3 rfl) rfl ?_
                  refine vops_take rfl (congrArg PV.bool c14) ?_
                  refine vops_efE (vef_callP rfl Try.call33 (F_ref05_in_ok h16 _)) rfl ?_
                  refine vops_take rfl (congrArg PV.bool c14) ?_
                  refine vops_rd (rd_not rfl) rfl ?_
                  refine vops_rd (rd_pickF (congrArg PV.bool c14) rfl) rfl ?_
                  refine vops_rd (rd_mvB rfl) rfl ?_
                  refine vops_skip rfl rfl (neT c17) rfl ?_
                  refine vops_skip rfl rfl (neT c17) rfl ?_
                  refine vops_skip rfl rfl (neT c17) rfl ?_
                  refine vops_skip rfl rfl (neT c17) rfl ?_
                  refine vops_rd (rd_pickT (congrArg PV.bool c17) rfl) rfl ?_
                  refine vops_rd (rd_mvB rfl) rfl ?_
                  refine vops_skip rfl rfl (by decide) rfl ?_
                  refine vops_skip rfl rfl (by decide) rfl ?_
                  refine vops_skip rfl rfl (by decide) rfl ?_
                  refine vops_skip rfl rfl (by decide) rfl ?_
                  refine vops_rd (rd_pickT rfl rfl) rfl ?_
                  refine vops_nil ?_
                  obtain rfl := Option.some.inj hF
                  refine onlyE ?_
                  exact weak_pick rfl [] (by decide) ⟨rn_low rfl (.bool _), trivial⟩ trivial
                · have hF := bifF c17 hF
                  obtain ⟨x18, h19, hF⟩ := bnd hF
                  rcases Bool.eq_false_or_eq_true (!x18) with c20 | c20
                  · have hF := bifT c20 hF
                    refine vops_rd (rd_fieldAddr rfl tf_35_0 ts_3 (by decide)) rfl ?_
                    refine vops_rd (rd_load1 rfl (getO_N rfl rfl) rfl ta_3 rfl) rfl ?_
                    refine vops_efE (vef_callP rfl Try.call33 (F_ref05_in_ok h6 _)) rfl ?_
                    refine vops_rd (rd_not rfl) rfl ?_
                    refine vops_rd (rd_mvB rfl) rfl ?_
                    refine vops_take rfl (congrArg PV.bool c7) ?_
                    refine vops_rd (rd_fieldAddr rfl tf_35_2 ts_3 (by decide)) rfl ?_
                    refine vops_take rfl (congrArg PV.bool c7) ?_
                    refine vops_rd (rd_load1 rfl (getO_N rfl rfl) rfl ta_3 rfl) rfl ?_
                    refine vops_take rfl (congrArg PV.bool c7) ?_
                    refine vops_rd (rd_lss rfl rfl) rfl ?_
                    refine vops_rd (rd_pickF (congrArg PV.bool c7) rfl) rfl ?_
                    refine vops_rd (rd_mvB rfl) rfl ?_
                    refine vops_take rfl (congrArg PV.bool c8) ?_
                    refine vops_rd (rd_fieldAddr rfl tf_35_3 ts_3 (by decide)) rfl ?_
                    refine vops_take rfl (congrArg PV.bool c8) ?_
                    refine vops_rd (rd_load1 rfl (getO_N rfl rfl) rfl ta_3 rfl) rfl ?_
                    refine vops_take rfl (congrArg PV.bool c8) ?_
                    refine vops_efE (vef_callP rfl Try.call33 (F_ref05_in_ok h10 _)) rfl ?_
                    refine vops_take rfl (congrArg PV.bool c8) ?_
                    refine vops_rd (rd_not rfl) rfl ?_
                    refine vops_rd (rd_pickF (congrArg PV.bool c8) rfl) rfl ?_
                    refine vops_rd (rd_mvB rfl) rfl ?_
                    refine vops_take rfl (congrArg PV.bool c11) ?_
                    refine vops_rd (rd_fieldAddr rfl tf_35_4 ts_3 (by decide)) rfl ?_
                    refine vops_take rfl (congrArg PV.bool c11) ?_
                    refine vops_rd (rd_load1 rfl (getO_N rfl rfl) rfl ta_3 rfl) rfl ?_
                    refine vops_take rfl (congrArg PV.bool c11) ?_
                    refine vops_efE (vef_callP rfl Try.call33 (F_ref05_in_ok h13 _)) rfl ?_
                    refine vops_take rfl (congrArg PV.bool c11) ?_
                    refine vops_rd (rd_not rfl) rfl ?_
                    refine vops_rd (rd_pickF (congrArg PV.bool c11) rfl) rfl ?_
                    refine vops_rd (rd_mvB rfl) rfl ?_
                    refine vops_take rfl (congrArg PV.bool c14) ?_
                    refine vops_rd (rd_fieldAddr rfl tf_35_5 ts_3 (by decide)) rfl ?_
                    refine vops_take rfl (congrArg PV.bool c14) ?_
                    refine vops_rd (rd_load1 rfl (getO_N rfl rfl) rfl ta_3 rfl) rfl ?_
                    refine vops_take rfl (congrArg PV.bool c14) ?_
                    refine vops_efE (vef_callP rfl Try.call33 (F_ref05_in_ok h16 _)) rfl ?_
                    refine vops_take rfl (congrArg PV.bool c14) ?_
                    refine vops_rd (rd_not rfl) rfl ?_
                    refine vops_rd (rd_pickF (congrArg PV.bool c14) rfl) rfl ?_
                    refine vops_rd (rd_mvB rfl) rfl ?_
                    refine vops_take rfl (congrArg PV.bool c17) ?_
                    refine vops_rd (rd_fieldAddr rfl tf_35_6 ts_3 (by decide)) rfl ?_
                    refine vops_take rfl (congrArg PV.bool c17) ?_
                    refine vops_rd (rd_load1 rfl (getO_N rfl rfl) rfl ta_3 rfl) rfl ?_
                    refine vops_take rfl (congrArg PV.bool c17) ?_
                    refine vops_efE (vef_callP rfl Try.call33 (F_ref05_in_ok h19 _)) rfl ?_
                    refine vops_take rfl (congrArg PV.bool c17) ?_
                    refine vops_rd (rd_not rfl) rfl ?_
                    refine vops_rd (rd_pickF (congrArg PV.bool c17) rfl) rfl ?_
                    refine vops_rd (rd_mvB rfl) rfl ?_
                    refine vops_skip rfl rfl (neT c20) rfl ?_
                    refine vops_skip rfl rfl (neT c20) rfl ?_
                    refine vops_skip rfl rfl (neT c20) rfl ?_
                    refine vops_skip rfl rfl (neT c20) rfl ?_
                    refine vops_rd (rd_pickT (congrArg PV.bool c20) rfl) rfl ?_
                    refine vops_nil ?_
                    obtain rfl := Option.some.inj hF
                    refine onlyE ?_
                    exact weak_pick rfl [] (by decide) ⟨rn_low rfl (.bool _), trivial⟩ trivial
                  · have hF := bifF c20 hF
                    obtain ⟨x21, h22, hF⟩ := bnd hF
                    refine vops_rd (rd_fieldAddr rfl tf_35_0 ts_3 (by decide)) rfl ?_
                    refine vops_rd (rd_load1 rfl (getO_N rfl rfl) rfl ta_3 rfl) rfl ?_
                    refine vops_efE (vef_callP rfl Try.call33 (F_ref05_in_ok h6 _)) rfl ?_
                    refine vops_rd (rd_not rfl) rfl ?_
                    refine vops_rd (rd_mvB rfl) rfl ?_
                    refine vops_take rfl (congrArg PV.bool c7) ?_
                    refine vops_rd (rd_fieldAddr rfl tf_35_2 ts_3 (by decide)) rfl ?_
                    refine vops_take rfl (congrArg PV.bool c7) ?_
                    refine vops_rd (rd_load1 rfl (getO_N rfl rfl) rfl ta_3 rfl) rfl ?_
                    refine vops_take rfl (congrArg PV.bool c7) ?_
                    refine vops_rd (rd_lss rfl rfl) rfl ?_
                    refine vops_rd (rd_pickF (congrArg PV.bool c7) rfl) rfl ?_
                    refine vops_rd (rd_mvB rfl) rfl ?_
                    refine vops_take rfl (congrArg PV.bool c8) ?_
                    refine vops_rd (rd_fieldAddr rfl tf_35_3 ts_3 (by decide)) rfl ?_
                    refine vops_take rfl (congrArg PV.bool c8) ?_
                    refine vops_rd (rd_load1 rfl (getO_N rfl rfl) rfl ta_3 rfl) rfl ?_
                    refine vops_take rfl (congrArg PV.bool c8) ?_
                    refine vops_efE (vef_callP rfl Try.call33 (F_ref05_in_ok h10 _)) rfl ?_
                    refine vops_take rfl (congrArg PV.bool c8) ?_
                    refine vops_rd (rd_not rfl) rfl ?_
                    refine vops_rd (rd_pickF (congrArg PV.bool c8) rfl) rfl ?_
                    refine vops_rd (rd_mvB rfl) rfl ?_
                    refine vops_take rfl (congrArg PV.bool c11) ?_
                    refine vops_rd (rd_fieldAddr rfl tf_35_4 ts_3 (by decide)) rfl ?_
                    refine vops_take rfl (congrArg PV.bool c11) ?_
                    refine vops_rd (rd_load1 rfl (getO_N rfl rfl) rfl ta_3 rfl) rfl ?_
                    refine vops_take rfl (congrArg PV.bool c11) ?_
                    refine vops_efE (vef_callP rfl Try.call33 (F_ref05_in_ok h13 _)) rfl ?_
                    refine vops_take rfl (congrArg PV.bool c11) ?_
                    refine vops_rd (rd_not rfl) rfl ?_
                    refine vops_rd (rd_pickF (congrArg PV.bool c11) rfl) rfl ?_
                    refine vops_rd (rd_mvB rfl) rfl ?_
                    refine vops_take rfl (congrArg PV.bool c14) ?_
                    refine vops_rd (rd_fieldAddr rfl tf_35_5 ts_3 (by decide)) rfl ?_
                    refine vops_take rfl (congrArg PV.bool c14) ?_
                    refine vops_rd (rd_load1 rfl (getO_N rfl rfl) rfl ta_3 rfl) rfl ?_
                    refine vops_take rfl (congrArg PV.bool c14) ?_
                    refine vops_efE (vef_callP rfl Try.call33 (F_ref05_in_ok h16 _)) rfl ?_
                    refine vops_take rfl (congrArg PV.bool c14) ?_
                    refine vops_rd (rd_not rfl) rfl ?_
                    refine vops_rd (rd_pickF (congrArg PV.bool c14) rfl) rfl ?_
                    refine vops_rd (rd_mvB rfl) rfl ?_
                    refine vops_take rfl (congrArg PV.bool c17) ?_
                    refine vops_rd (rd_fieldAddr rfl tf_35_6 ts_3 (by decide)) rfl ?_
                    refine vops_take rfl (congrArg PV.bool c17) ?_
                    refine vops_rd (rd_load1 rfl (getO_N rfl rfl) rfl ta_3 rfl) rfl ?_
                    refine vops_take rfl (congrArg PV.bool c17) ?_
                    refine vops_efE (vef_callP rfl Try.call33 (F_ref05_in_ok h19 _)) rfl ?_
                    refine vops_take rfl (congrArg PV.bool c17) ?_
                    refine vops_rd (rd_not rfl) rfl ?_
                    refine vops_rd (rd_pickF (congrArg PV.bool c17) rfl) rfl ?_
                    refine vops_rd (rd_mvB rfl) rfl ?_
                    refine vops_take rfl (congrArg PV.bool c20) ?_
                    refine vops_rd (rd_fieldAddr rfl tf_35_7 ts_3 (by decide)) rfl ?_
                    refine vops_take rfl (congrArg PV.bool c20) ?_
                    refine vops_rd (rd_load1 rfl (getO_N rfl rfl) rfl ta_3 rfl) rfl ?_
                    refine vops_take rfl (congrArg PV.bool c20) ?_
                    refine vops_efE (vef_callP rfl Try.call33 (F_ref05_in_ok h22 _)) rfl ?_
                    refine vops_take rfl (congrArg PV.bool c20) ?_
                    refine vops_rd (rd_not rfl) rfl ?_
                    refine vops_rd (rd_pickF (congrArg PV.bool c20) rfl) rfl ?_
                    refine vops_nil ?_
                    obtain rfl := Option.some.inj hF
                    refine onlyE ?_
                    exact weak_pick rfl [] (by decide) ⟨rn_low rfl (.bool _), trivial⟩ trivial
      · rintro _ _ _ _ ⟨rfl, hw⟩
        refine ⟨_, _, _, hw, ?_⟩
        refine vwp_cond rfl (fun c23 => ?_) (fun c23 => ?_)
        · have hF := bifT c23 hF
          refine vwp_seq ?_
          refine vwp_region ?_
          refine vops_rd (rd_asI rfl) rfl ?_
          refine vops_nil ?_
          refine vwp_ret ?_
          obtain rfl := Option.some.inj hF
          refine fnR ?_
          exact weak_sub ⟨rfl, trivial⟩
        · have hF := bifF c23 hF
          refine vwp_skip ?_
          refine vwp_seq ?_
          refine vwp_region ?_
          refine vops_rd (rd_asI rfl) rfl ?_
          refine vops_nil ?_
          refine vwp_ret ?_
          obtain rfl := Option.some.inj hF
          refine fnR ?_
          exact weak_sub ⟨rfl, trivial⟩
  · rintro _ _ _ _ ⟨he, hw⟩
    refine ⟨_, _, _, hw, ?_⟩
    exact bodyQ_pure he [.int .i64 r] ⟨rfl, trivial⟩ (.int _ _) ⟨rfl, rfl⟩

theorem F_ref05_Floor_ok {p0 : Int} {p1 : Int} {r : Int} (hF : F_ref05_Floor p0 p1 = some r) (low : List AObj) :
    VCalls Try.prog 34 [.int .i64 p0, .int .i64 p1] low fun x low' => x = .int .i64 r ∧ low' = low := by
  refine vcalls_of_body (nt := 16) (rs := [.tmp 4]) Try.func34 rfl rfl (Nat.le_of_ble_eq_true rfl) rfl ?_
  refine vwp_monoW (Q' := FnE (fun E' lw lc => Weak E' lw lc [(4, .int .i64 r)] low [])) ?_ ?_
  · unfold F_ref05_Floor at hF
    refine vwp_seq ?_
    refine vwp_region ?_
    refine vops_rd (rd_asI rfl) rfl ?_
    refine vops_nil ?_
    refine vwp_seq ?_
    refine vwp_region ?_
    obtain ⟨x1, h2, hF⟩ := bnd hF
    refine vops_rd (rd_mvI rfl) rfl ?_
    refine vops_rd (rd_mvI rfl) rfl ?_
    refine vops_rd (rd_quo rfl rfl (quoI_some h2).1 (quoI_some h2).2) rfl ?_
    refine vops_rd (rd_asI rfl) rfl ?_
    refine vops_nil ?_
    refine vwp_seq ?_
    refine vwp_seq ?_
    refine vwp_region ?_
    obtain ⟨x3, h4, hF⟩ := bnd hF
    refine vops_rd (rd_mvI rfl) rfl ?_
    refine vops_rd (rd_mvI rfl) rfl ?_
    refine vops_rd (rd_rem rfl rfl (remI_some h4).1 (remI_some h4).2) rfl ?_
    refine vops_rd (rd_lss rfl rfl) rfl ?_
    refine vops_nil ?_
    obtain ⟨o5, ho5, hF⟩ := bnd hF
    refine vwp_monoW (Q' := (fun o5 => OnlyE .normal (fun E' lw lc => Weak E' lw lc [(5, .int .i64 o5)] low [])) o5) ?_ ?_
    · replace hF := ho5
      refine vwp_cond rfl (fun c6 => ?_) (fun c6 => ?_)
      · have hF := bifT c6 hF
        refine vwp_region ?_
        refine vops_rd (rd_mvI rfl) rfl ?_
        refine vops_rd (rd_sub rfl rfl rfl) rfl ?_
        refine vops_rd (rd_asI rfl) rfl ?_
        refine vops_nil ?_
        obtain rfl := Option.some.inj hF
        refine onlyE ?_
        exact weak_sub ⟨rfl, trivial⟩
      · have hF := bifF c6 hF
        refine vwp_skip ?_
        obtain rfl := Option.some.inj hF
        refine onlyE ?_
        exact weak_sub ⟨rfl, trivial⟩
    · rintro _ _ _ _ ⟨rfl, hw⟩
      refine ⟨_, _, _, hw, ?_⟩
      refine vwp_seq ?_
      refine vwp_region ?_
      refine vops_rd (rd_mvI rfl) rfl ?_
      refine vops_rd (rd_asI rfl) rfl ?_
      refine vops_nil ?_
      refine vwp_ret ?_
      obtain rfl := Option.some.inj hF
      refine fnR ?_
      exact weak_sub ⟨rfl, trivial⟩
  · rintro _ _ _ _ ⟨he, hw⟩
    refine ⟨_, _, _, hw, ?_⟩
    exact bodyQ_pure he [.int .i64 r] ⟨rfl, trivial⟩ (.int _ _) ⟨rfl, rfl⟩

theorem F_ref05_Ceil_ok {p0 : Int} {p1 : Int} {r : Int} (hF : F_ref05_Ceil p0 p1 = some r) (low : List AObj) :
    VCalls Try.prog 28 [.int .i64 p0, .int .i64 p1] low fun x low' => x = .int .i64 r ∧ low' = low := by
  refine vcalls_of_body (nt := 10) (rs := [.tmp 4]) Try.func28 rfl rfl (Nat.le_of_ble_eq_true rfl) rfl ?_
  refine vwp_monoW (Q' := FnE (fun E' lw lc => Weak E' lw lc [(4, .int .i64 r)] low [])) ?_ ?_
  · unfold F_ref05_Ceil at hF
    refine vwp_seq ?_
    refine vwp_region ?_
    refine vops_rd (rd_asI rfl) rfl ?_
    refine vops_nil ?_
    refine vwp_seq ?_
    refine vwp_region ?_
    obtain ⟨x1, h2, hF⟩ := bnd hF
    refine vops_rd (rd_mvI rfl) rfl ?_
    refine vops_rd (rd_neg rfl rfl) rfl ?_
    refine vops_rd (rd_mvI rfl) rfl ?_
    refine vops_efE (vef_callP rfl Try.call34 (F_ref05_Floor_ok h2 _)) rfl ?_
    refine vops_rd (rd_neg rfl rfl) rfl ?_
    refine vops_rd (rd_asI rfl) rfl ?_
    refine vops_nil ?_
    refine vwp_ret ?_
    obtain rfl := Option.some.inj hF
    refine fnR ?_
    exact weak_sub ⟨rfl, trivial⟩
  · rintro _ _ _ _ ⟨he, hw⟩
    refine ⟨_, _, _, hw, ?_⟩
    exact bodyQ_pure he [.int .i64 r] ⟨rfl, trivial⟩ (.int _ _) ⟨rfl, rfl⟩

theorem F_ref05_Gassy_ok {p0 : Int} {r : Bool} (hF : F_ref05_Gassy p0 = some r) (low : List AObj) :
    VCalls Try.prog 29 [.int .i64 p0] low fun x low' => x = .bool r ∧ low' = low := by
  refine vcalls_of_body (nt := 9) (rs := [.tmp 2]) Try.func29 rfl rfl (Nat.le_of_ble_eq_true rfl) rfl ?_
  refine vwp_monoW (Q' := FnE (fun E' lw lc => Weak E' lw lc [(2, .bool r)] low [])) ?_ ?_
  · unfold F_ref05_Gassy at hF
    refine vwp_seq ?_
    refine vwp_region ?_
    refine vops_rd (rd_asB rfl) rfl ?_
    refine vops_nil ?_
    refine vwp_seq ?_
    refine vwp_region ?_
    rcases Bool.eq_false_or_eq_true (decide (p0 = 1)) with c1 | c1
    · have hF := bifT c1 hF
      refine vops_rd (rd_mvI rfl) rfl ?_
      refine vops_rd (rd_eql rfl rfl) rfl ?_
      refine vops_rd (rd_mvB rfl) rfl ?_
      refine vops_skip rfl rfl (neT c1) rfl ?_
      refine vops_skip rfl rfl (neT c1) rfl ?_
      refine vops_rd (rd_pickT (congrArg PV.bool c1) rfl) rfl ?_
      refine vops_rd (rd_asB rfl) rfl ?_
      refine vops_nil ?_
      refine vwp_ret ?_
      obtain rfl := Option.some.inj hF
      refine fnR ?_
      exact weak_sub ⟨rfl, trivial⟩
    · have hF := bifF c1 hF
      refine vops_rd (rd_mvI rfl) rfl ?_
      refine vops_rd (rd_eql rfl rfl) rfl ?_
      refine vops_rd (rd_mvB rfl) rfl ?_
      refine vops_take rfl (congrArg PV.bool c1) ?_
      refine vops_rd (rd_mvI rfl) rfl ?_
      refine vops_take rfl (congrArg PV.bool c1) ?_
      refine vops_rd (rd_eql rfl rfl) rfl ?_
      refine vops_rd (rd_pickF (congrArg PV.bool c1) rfl) rfl ?_
      refine vops_rd (rd_asB rfl) rfl ?_
      refine vops_nil ?_
      refine vwp_ret ?_
      obtain rfl := Option.some.inj hF
      refine fnR ?_
      exact weak_sub ⟨rfl, trivial⟩
  · rintro _ _ _ _ ⟨he, hw⟩
    refine ⟨_, _, _, hw, ?_⟩
    exact bodyQ_pure he [.bool r] ⟨rfl, trivial⟩ (.bool _) ⟨rfl, rfl⟩

theorem F_ref06_At_ok {p0 : T_Sensor} {p1 : T_Measure} {p2 : Int} {r : T_Span} (hF : F_ref06_At p0 p1 p2 = some r) (low : List AObj) :
    VCalls Try.prog 16 [.agg [.int .i64 p0.Address, .int .i64 p0.Kind, .int .i64 p0.Target, .int .i64 p0.Offset, .int .i64 p0.Scale, .int .i64 p0.Error, .int .i64 p0.Drift, .int .i64 p0.Life], .agg [.int .i64 p1.Sensor, .int .i64 p1.Time, .int .i64 p1.Span.Low, .int .i64 p1.Span.High], .int .i64 p2] low fun x low' => x = .agg [.int .i64 r.Low, .int .i64 r.High] ∧ low' = low := by
  refine vcalls_of_body (nt := 75) (rs := [.cell 6 24]) Try.func16 rfl rfl (Nat.le_of_ble_eq_true rfl) rfl ?_
  refine vwp_monoW (Q' := FnE (fun E' lw lc => Weak E' lw lc [(6, .ptr (low.length + 0) 0 0 0)] low [⟨24, 2, [.agg [.int .i64 r.Low, .int .i64 r.High]], 0⟩])) ?_ ?_
  · unfold F_ref06_At at hF
    refine vwp_seq ?_
    refine vwp_region ?_
    refine vops_efE (vef_boxN rfl rfl (v := .agg [.int .i64 p0.Address, .int .i64 p0.Kind, .int .i64 p0.Target, .int .i64 p0.Offset, .int .i64 p0.Scale, .int .i64 p0.Error, .int .i64 p0.Drift, .int .i64 p0.Life]) rfl rfl (Nat.succ_pos _) rfl rfl) rfl ?_
    refine vops_efE (vef_boxN rfl rfl (v := .agg [.int .i64 p1.Sensor, .int .i64 p1.Time, .int .i64 p1.Span.Low, .int .i64 p1.Span.High]) rfl rfl (Nat.succ_pos _) rfl rfl) rfl ?_
    refine vops_efE (vef_allocN rfl rfl tz_24 rfl rfl (Nat.succ_pos _) rfl) rfl ?_
    refine vops_nil ?_
    refine vwp_seq ?_
    refine vwp_seq ?_
    obtain ⟨o1, ho1, hF⟩ := bnd hF
    refine vwp_monoW (Q' := (fun o1 => OnlyE .normal (fun E' lw lc => Weak E' lw lc [(2, .int .i64 p2), (3, .ptr (low.length + 0) 0 0 0), (4, .ptr (low.length + 1) 0 0 0), (6, .ptr (low.length + 2) 0 0 0), (37, .bool o1)] low [⟨35, 8, [.agg [.int .i64 p0.Address, .int .i64 p0.Kind, .int .i64 p0.Target, .int .i64 p0.Offset, .int .i64 p0.Scale, .int .i64 p0.Error, .int .i64 p0.Drift, .int .i64 p0.Life]], 0⟩, ⟨26, 4, [.agg [.int .i64 p1.Sensor, .int .i64 p1.Time, .int .i64 p1.Span.Low, .int .i64 p1.Span.High]], 0⟩, ⟨24, 2, [.agg [.int .i64 0, .int .i64 0]], 0⟩])) o1) ?_ ?_
    · replace hF := ho1
      obtain ⟨x2, h3, hF⟩ := bnd hF
      rcases Bool.eq_false_or_eq_true (decide (x2 ≠ 0)) with c4 | c4
      · have hF := bifT c4 hF
        refine vwp_drawn [[], [0], [0, 1], [0, 1, 2], [0, 1, 2, 3], [0, 1, 2, 3, 4], [0, 1, 2, 3, 4, 5], [0, 1, 2, 3, 4, 5, 6], [0, 1, 2, 3, 4, 5, 6, 7], [0, 1, 2, 3, 4, 5, 6, 7, 8], [0, 1, 2, 3, 4, 5, 6, 7, 8, 9], [0, 1, 2, 3, 4, 5, 6, 7, 8], [0, 1, 2, 3, 4, 5, 6, 7, 8, 9, 10, 11], [0, 1, 2, 3, 4, 5, 6, 7, 8, 9, 10, 11, 12], [0, 1, 2, 3, 4, 5, 6, 7, 8, 9, 10, 11, 12, 13], [0, 1, 2, 3, 4, 5, 6, 7, 8, 9, 10, 11, 12, 13, 14], [0, 1, 2, 3, 4, 5, 6, 7, 8, 9, 10, 11, 12, 13, 14], [0, 1, 2, 3, 4, 5, 6, 7, 8, 9, 10, 11, 12, 13, 14, 16], [0, 1, 2, 3, 4, 5, 6, 7, 8, 9, 10, 11, 12, 13, 14, 15, 16, 17], [0, 1, 2, 3, 4, 5, 6, 7, 8, 9, 10, 11, 12, 13, 14, 15, 16, 17, 18], [0, 1, 2, 3, 4, 5, 6, 7, 8, 9, 10, 11, 12, 13, 14, 15, 16, 17, 18, 19], [0, 1, 2, 3, 4, 5, 6, 7, 8, 9, 10, 11, 12, 13, 14, 15, 16, 17, 18, 19, 20], [0, 1, 2, 3, 4, 5, 6, 7, 8, 9, 10, 11, 12, 13, 14, 15, 16, 17, 18, 19, 20], [0, 1, 2, 3, 4, 5, 6, 7, 8, 9, 10, 11, 12, 13, 14, 15, 16, 17, 18, 19, 20, 22], [0, 1, 2, 3, 4, 5, 6, 7, 8, 9, 10, 11, 12, 13, 14, 15, 16, 17, 18, 19, 20, 21, 22, 23], [0, 1, 2, 3, 4, 5, 6, 7, 8, 9, 10, 11, 12, 13, 14, 15, 16, 17, 18, 19, 20], [0, 1, 2, 3, 4, 5, 6, 7, 8, 9, 10, 11, 12, 13, 14, 15, 16, 17, 18, 19, 20, 25], [0, 1, 2, 3, 4, 5, 6, 7, 8, 9, 10, 11, 12, 13, 14, 15, 16, 17, 18, 19, 20, 21, 22, 23, 24, 25, 26], [0, 1, 2, 3, 4, 5, 6, 7, 8, 9, 10, 11, 12, 13, 14, 15, 16, 17, 18, 19, 20, 21, 22, 23, 24, 25, 26, 27]] [false, false, false, false, false, false, false, false, false, false, false, false, false, false, false, false, false, false, false, false, false, false, false, false, false, false, false, false, false] [(low, [⟨35, 8, [.agg [.int .i64 p0.Address, .int .i64 p0.Kind, .int .i64 p0.Target, .int .i64 p0.Offset, .int .i64 p0.Scale, .int .i64 p0.Error, .int .i64 p0.Drift, .int .i64 p0.Life]], 0⟩, ⟨26, 4, [.agg [.int .i64 p1.Sensor, .int .i64 p1.Time, .int .i64 p1.Span.Low, .int .i64 p1.Span.High]], 0⟩, ⟨24, 2, [.agg [.int .i64 0, .int .i64 0]], 0⟩])] mixed (by kernel_rfl) rfl (lenAll (all1 rfl all0)) rfl (low, [⟨35, 8, [.agg [.int .i64 p0.Address, .int .i64 p0.Kind, .int .i64 p0.Target, .int .i64 p0.Offset, .int .i64 p0.Scale, .int .i64 p0.Error, .int .i64 p0.Drift, .int .i64 p0.Life]], 0⟩, ⟨26, 4, [.agg [.int .i64 p1.Sensor, .int .i64 p1.Time, .int .i64 p1.Span.Low, .int .i64 p1.Span.High]], 0⟩, ⟨24, 2, [.agg [.int .i64 0, .int .i64 0]], 0⟩]) rfl rfl ?_
        refine dops_rdW [(low, [⟨35, 8, [.agg [.int .i64 p0.Address, .int .i64 p0.Kind, .int .i64 p0.Target, .int .i64 p0.Offset, .int .i64 p0.Scale, .int .i64 p0.Error, .int .i64 p0.Drift, .int .i64 p0.Life]], 0⟩, ⟨26, 4, [.agg [.int .i64 p1.Sensor, .int .i64 p1.Time, .int .i64 p1.Span.Low, .int .i64 p1.Span.High]], 0⟩, ⟨24, 2, [.agg [.int .i64 0, .int .i64 0]], 0⟩])] rfl rfl (all1 (VRd.ntl (rd_loadN (ds := [.int .i64 p0.Address, .int .i64 p0.Kind, .int .i64 p0.Target, .int .i64 p0.Offset, .int .i64 p0.Scale, .int .i64 p0.Error, .int .i64 p0.Drift, .int .i64 p0.Life]) rfl (getO_N rfl rfl) rfl ta_35 ts_35 rfl rfl rfl)) all0) ?_
        refine dops_rdW [(low, [⟨35, 8, [.agg [.int .i64 p0.Address, .int .i64 p0.Kind, .int .i64 p0.Target, .int .i64 p0.Offset, .int .i64 p0.Scale, .int .i64 p0.Error, .int .i64 p0.Drift, .int .i64 p0.Life]], 0⟩, ⟨26, 4, [.agg [.int .i64 p1.Sensor, .int .i64 p1.Time, .int .i64 p1.Span.Low, .int .i64 p1.Span.High]], 0⟩, ⟨24, 2, [.agg [.int .i64 0, .int .i64 0]], 0⟩])] rfl rfl (all1 (nt_of (vef_callP rfl Try.call27 (F_ref05_Check_ok h3 _))) all0) ?_
        refine dops_rdW [(low, [⟨35, 8, [.agg [.int .i64 p0.Address, .int .i64 p0.Kind, .int .i64 p0.Target, .int .i64 p0.Offset, .int .i64 p0.Scale, .int .i64 p0.Error, .int .i64 p0.Drift, .int .i64 p0.Life]], 0⟩, ⟨26, 4, [.agg [.int .i64 p1.Sensor, .int .i64 p1.Time, .int .i64 p1.Span.Low, .int .i64 p1.Span.High]], 0⟩, ⟨24, 2, [.agg [.int .i64 0, .int .i64 0]], 0⟩])] rfl rfl (all1 (VRd.ntl (rd_neq rfl rfl)) all0) ?_
        refine dops_rdW [(low, [⟨35, 8, [.agg [.int .i64 p0.Address, .int .i64 p0.Kind, .int .i64 p0.Target, .int .i64 p0.Offset, .int .i64 p0.Scale, .int .i64 p0.Error, .int .i64 p0.Drift, .int .i64 p0.Life]], 0⟩, ⟨26, 4, [.agg [.int .i64 p1.Sensor, .int .i64 p1.Time, .int .i64 p1.Span.Low, .int .i64 p1.Span.High]], 0⟩, ⟨24, 2, [.agg [.int .i64 0, .int .i64 0]], 0⟩])] rfl rfl (all1 (VRd.ntl (rd_mvB rfl)) all0) ?_
        refine dops_skip rfl rfl rfl (neT c4) ?_
        refine dops_skip rfl rfl rfl (neT c4) ?_
        refine dops_skip rfl rfl rfl (neT c4) ?_
        refine dops_rdW [(low, [⟨35, 8, [.agg [.int .i64 p0.Address, .int .i64 p0.Kind, .int .i64 p0.Target, .int .i64 p0.Offset, .int .i64 p0.Scale, .int .i64 p0.Error, .int .i64 p0.Drift, .int .i64 p0.Life]], 0⟩, ⟨26, 4, [.agg [.int .i64 p1.Sensor, .int .i64 p1.Time, .int .i64 p1.Span.Low, .int .i64 p1.Span.High]], 0⟩, ⟨24, 2, [.agg [.int .i64 0, .int .i64 0]], 0⟩])] rfl rfl (all1 (VRd.ntl (rd_pickT (congrArg PV.bool c4) rfl)) all0) ?_
        refine dops_rdW [(low, [⟨35, 8, [.agg [.int .i64 p0.Address, .int .i64 p0.Kind, .int .i64 p0.Target, .int .i64 p0.Offset, .int .i64 p0.Scale, .int .i64 p0.Error, .int .i64 p0.Drift, .int .i64 p0.Life]], 0⟩, ⟨26, 4, [.agg [.int .i64 p1.Sensor, .int .i64 p1.Time, .int .i64 p1.Span.Low, .int .i64 p1.Span.High]], 0⟩, ⟨24, 2, [.agg [.int .i64 0, .int .i64 0]], 0⟩])] rfl rfl (all1 (VRd.ntl (rd_mvB rfl)) all0) ?_
        refine dops_skip rfl rfl rfl (by decide) ?_
        refine dops_skip rfl rfl rfl (by decide) ?_
        refine dops_skip rfl rfl rfl (by decide) ?_
        refine dops_skip rfl rfl rfl (by decide) ?_
        refine dops_rdW [(low, [⟨35, 8, [.agg [.int .i64 p0.Address, .int .i64 p0.Kind, .int .i64 p0.Target, .int .i64 p0.Offset, .int .i64 p0.Scale, .int .i64 p0.Error, .int .i64 p0.Drift, .int .i64 p0.Life]], 0⟩, ⟨26, 4, [.agg [.int .i64 p1.Sensor, .int .i64 p1.Time, .int .i64 p1.Span.Low, .int .i64 p1.Span.High]], 0⟩, ⟨24, 2, [.agg [.int .i64 0, .int .i64 0]], 0⟩])] rfl rfl (all1 (VRd.ntl (rd_pickT rfl rfl)) all0) ?_
        refine dops_rdW [(low, [⟨35, 8, [.agg [.int .i64 p0.Address, .int .i64 p0.Kind, .int .i64 p0.Target, .int .i64 p0.Offset, .int .i64 p0.Scale, .int .i64 p0.Error, .int .i64 p0.Drift, .int .i64 p0.Life]], 0⟩, ⟨26, 4, [.agg [.int .i64 p1.Sensor, .int .i64 p1.Time, .int .i64 p1.Span.Low, .int .i64 p1.Span.High]], 0⟩, ⟨24, 2, [.agg [.int .i64 0, .int .i64 0]], 0⟩])] rfl rfl (all1 (VRd.ntl (rd_mvB rfl)) all0) ?_
        refine dops_skip rfl rfl rfl (by decide) ?_
        refine dops_skip rfl rfl rfl (by decide) ?_
        refine dops_skip rfl rfl rfl (by decide) ?_
        refine dops_skip rfl rfl rfl (by decide) ?_
        refine dops_rdW [(low, [⟨35, 8, [.agg [.int .i64 p0.Address, .int .i64 p0.Kind, .int .i64 p0.Target, .int .i64 p0.Offset, .int .i64 p0.Scale, .int .i64 p0.Error, .int .i64 p0.Drift, .int .i64 p0.Life]], 0⟩, ⟨26, 4, [.agg [.int .i64 p1.Sensor, .int .i64 p1.Time, .int .i64 p1.Span.Low, .int .i64 p1.Span.High]], 0⟩, ⟨24, 2, [.agg [.int .i64 0, .int .i64 0]], 0⟩])] rfl rfl (all1 (VRd.ntl (rd_pickT rfl rfl)) all0) ?_
        refine dops_rdW [(low, [⟨35, 8, [.agg [.int .i64 p0.Address, .int .i64 p0.Kind, .int .i64 p0.Target, .int .i64 p0.Offset, .int .i64 p0.Scale, .int .i64 p0.Error, .int .i64 p0.Drift, .int .i64 p0.Life]], 0⟩, ⟨26, 4, [.agg [.int .i64 p1.Sensor, .int .i64 p1.Time, .int .i64 p1.Span.Low, .int .i64 p1.Span.High]], 0⟩, ⟨24, 2, [.agg [.int .i64 0, .int .i64 0]], 0⟩])] rfl rfl (all1 (VRd.ntl (rd_mvB rfl)) all0) ?_
        refine dops_skip rfl rfl rfl (by decide) ?_
        refine dops_skip rfl rfl rfl (by decide) ?_
        refine dops_skip rfl rfl rfl (by decide) ?_
        refine dops_skip rfl rfl rfl (by decide) ?_
        refine dops_skip rfl rfl rfl (by decide) ?_
        refine dops_skip rfl rfl rfl (by decide) ?_
        refine dops_skip rfl rfl rfl (by decide) ?_
        refine dops_rdW [(low, [⟨35, 8, [.agg [.int .i64 p0.Address, .int .i64 p0.Kind, .int .i64 p0.Target, .int .i64 p0.Offset, .int .i64 p0.Scale, .int .i64 p0.Error, .int .i64 p0.Drift, .int .i64 p0.Life]], 0⟩, ⟨26, 4, [.agg [.int .i64 p1.Sensor, .int .i64 p1.Time, .int .i64 p1.Span.Low, .int .i64 p1.Span.High]], 0⟩, ⟨24, 2, [.agg [.int .i64 0, .int .i64 0]], 0⟩])] rfl rfl (all1 (VRd.ntl (rd_pickT rfl rfl)) all0) ?_
        refine dops_nil ?_
        obtain rfl := Option.some.inj hF
        refine onlyE ?_
        exact weak_sub ⟨rfl, rfl, rfl, rfl, rfl, trivial⟩
      · have hF := bifF c4 hF
        rcases Bool.eq_false_or_eq_true (decide (p1.Sensor < 0)) with c5 | c5
        · have hF := bifT c5 hF
          refine vwp_drawn [[], [0], [0, 1], [0, 1, 2], [0, 1, 2, 3], [0, 1, 2, 3, 4], [0, 1, 2, 3, 4, 5], [0, 1, 2, 3, 4, 5, 6], [0, 1, 2, 3, 4, 5, 6, 7], [0, 1, 2, 3, 4, 5, 6, 7, 8], [0, 1, 2, 3, 4, 5, 6, 7, 8, 9], [0, 1, 2, 3, 4, 5, 6, 7, 8], [0, 1, 2, 3, 4, 5, 6, 7, 8, 9, 10, 11], [0, 1, 2, 3, 4, 5, 6, 7, 8, 9, 10, 11, 12], [0, 1, 2, 3, 4, 5, 6, 7, 8, 9, 10, 11, 12, 13], [0, 1, 2, 3, 4, 5, 6, 7, 8, 9, 10, 11, 12, 13, 14], [0, 1, 2, 3, 4, 5, 6, 7, 8, 9, 10, 11, 12, 13, 14], [0, 1, 2, 3, 4, 5, 6, 7, 8, 9, 10, 11, 12, 13, 14, 16], [0, 1, 2, 3, 4, 5, 6, 7, 8, 9, 10, 11, 12, 13, 14, 15, 16, 17], [0, 1, 2, 3, 4, 5, 6, 7, 8, 9, 10, 11, 12, 13, 14, 15, 16, 17, 18], [0, 1, 2, 3, 4, 5, 6, 7, 8, 9, 10, 11, 12, 13, 14, 15, 16, 17, 18, 19], [0, 1, 2, 3, 4, 5, 6, 7, 8, 9, 10, 11, 12, 13, 14, 15, 16, 17, 18, 19, 20], [0, 1, 2, 3, 4, 5, 6, 7, 8, 9, 10, 11, 12, 13, 14, 15, 16, 17, 18, 19, 20], [0, 1, 2, 3, 4, 5, 6, 7, 8, 9, 10, 11, 12, 13, 14, 15, 16, 17, 18, 19, 20, 22], [0, 1, 2, 3, 4, 5, 6, 7, 8, 9, 10, 11, 12, 13, 14, 15, 16, 17, 18, 19, 20, 21, 22, 23], [0, 1, 2, 3, 4, 5, 6, 7, 8, 9, 10, 11, 12, 13, 14, 15, 16, 17, 18, 19, 20], [0, 1, 2, 3, 4, 5, 6, 7, 8, 9, 10, 11, 12, 13, 14, 15, 16, 17, 18, 19, 20, 25], [0, 1, 2, 3, 4, 5, 6, 7, 8, 9, 10, 11, 12, 13, 14, 15, 16, 17, 18, 19, 20, 21, 22, 23, 24, 25, 26], [0, 1, 2, 3, 4, 5, 6, 7, 8, 9, 10, 11, 12, 13, 14, 15, 16, 17, 18, 19, 20, 21, 22, 23, 24, 25, 26, 27]] [false, false, false, false, false, false, false, false, false, false, false, false, false, false, false, false, false, false, false, false, false, false, false, false, false, false, false, false, false] [(low, [⟨35, 8, [.agg [.int .i64 p0.Address, .int .i64 p0.Kind, .int .i64 p0.Target, .int .i64 p0.Offset, .int .i64 p0.Scale, .int .i64 p0.Error, .int .i64 p0.Drift, .int .i64 p0.Life]], 0⟩, ⟨26, 4, [.agg [.int .i64 p1.Sensor, .int .i64 p1.Time, .int .i64 p1.Span.Low, .int .i64 p1.Span.High]], 0⟩, ⟨24, 2, [.agg [.int .i64 0, .int .i64 0]], 0⟩])] mixed (by kernel_rfl) rfl (lenAll (all1 rfl all0)) rfl (low, [⟨35, 8, [.agg [.int .i64 p0.Address, .int .i64 p0.Kind, .int .i64 p0.Target, .int .i64 p0.Offset, .int .i64 p0.Scale, .int .i64 p0.Error, .int .i64 p0.Drift, .int .i64 p0.Life]], 0⟩, ⟨26, 4, [.agg [.int .i64 p1.Sensor, .int .i64 p1.Time, .int .i64 p1.Span.Low, .int .i64 p1.Span.High]], 0⟩, ⟨24, 2, [.agg [.int .i64 0, .int .i64 0]], 0⟩]) rfl rfl ?_
          refine dops_rdW [(low, [⟨35, 8, [.agg [.int .i64 p0.Address, .int .i64 p0.Kind, .int .i64 p0.Target, .int .i64 p0.Offset, .int .i64 p0.Scale, .int .i64 p0.Error, .int .i64 p0.Drift, .int .i64 p0.Life]], 0⟩, ⟨26, 4, [.agg [.int .i64 p1.Sensor, .int .i64 p1.Time, .int .i64 p1.Span.Low, .int .i64 p1.Span.High]], 0⟩, ⟨24, 2, [.agg [.int .i64 0, .int .i64 0]], 0⟩])] rfl rfl (all1 (VRd.ntl (rd_loadN (ds := [.int .i64 p0.Address, .int .i64 p0.Kind, .int .i64 p0.Target, .int .i64 p0.Offset, .int .i64 p0.Scale, .int .i64 p0.Error, .int .i64 p0.Drift, .int .i64 p0.Life]) rfl (getO_N rfl rfl) rfl ta_35 ts_35 rfl rfl rfl)) all0) ?_
          refine dops_rdW [(low, [⟨35, 8, [.agg [.int .i64 p0.Address, .int .i64 p0.Kind, .int .i64 p0.Target, .int .i64 p0.Offset, .int .i64 p0.Scale, .int .i64 p0.Error, .int .i64 p0.Drift, .int .i64 p0.Life]], 0⟩, ⟨26, 4, [.agg [.int .i64 p1.Sensor, .int .i64 p1.Time, .int .i64 p1.Span.Low, .int .i64 p1.Span.High]], 0⟩, ⟨24, 2, [.agg [.int .i64 0, .int .i64 0]], 0⟩])] rfl rfl (all1 (nt_of (vef_callP rfl Try.call27 (F_ref05_Check_ok h3 _))) all0) ?_
          refine dops_rdW [(low, [⟨35, 8, [.agg [.int .i64 p0.Address, .int .i64 p0.Kind, .int .i64 p0.Target, .int .i64 p0.Offset, .int .i64 p0.Scale, .int .i64 p0.Error, .int .i64 p0.Drift, .int .i64 p0.Life]], 0⟩, ⟨26, 4, [.agg [.int .i64 p1.Sensor, .int .i64 p1.Time, .int .i64 p1.Span.Low, .int .i64 p1.Span.High]], 0⟩, ⟨24, 2, [.agg [.int .i64 0, .int .i64 0]], 0⟩])] rfl rfl (all1 (VRd.ntl (rd_neq rfl rfl)) all0) ?_
          refine dops_rdW [(low, [⟨35, 8, [.agg [.int .i64 p0.Address, .int .i64 p0.Kind, .int .i64 p0.Target, .int .i64 p0.Offset, .int .i64 p0.Scale, .int .i64 p0.Error, .int .i64 p0.Drift, .int .i64 p0.Life]], 0⟩, ⟨26, 4, [.agg [.int .i64 p1.Sensor, .int .i64 p1.Time, .int .i64 p1.Span.Low, .int .i64 p1.Span.High]], 0⟩, ⟨24, 2, [.agg [.int .i64 0, .int .i64 0]], 0⟩])] rfl rfl (all1 (VRd.ntl (rd_mvB rfl)) all0) ?_
          refine dops_takeW [(low, [⟨35, 8, [.agg [.int .i64 p0.Address, .int .i64 p0.Kind, .int .i64 p0.Target, .int .i64 p0.Offset, .int .i64 p0.Scale, .int .i64 p0.Error, .int .i64 p0.Drift, .int .i64 p0.Life]], 0⟩, ⟨26, 4, [.agg [.int .i64 p1.Sensor, .int .i64 p1.Time, .int .i64 p1.Span.Low, .int .i64 p1.Span.High]], 0⟩, ⟨24, 2, [.agg [.int .i64 0, .int .i64 0]], 0⟩])] rfl rfl rfl (congrArg PV.bool c4) (all1 (VRd.ntl (rd_fieldAddr rfl tf_26_0 ts_3 (by decide))) all0) ?_
          refine dops_takeW [(low, [⟨35, 8, [.agg [.int .i64 p0.Address, .int .i64 p0.Kind, .int .i64 p0.Target, .int .i64 p0.Offset, .int .i64 p0.Scale, .int .i64 p0.Error, .int .i64 p0.Drift, .int .i64 p0.Life]], 0⟩, ⟨26, 4, [.agg [.int .i64 p1.Sensor, .int .i64 p1.Time, .int .i64 p1.Span.Low, .int .i64 p1.Span.High]], 0⟩, ⟨24, 2, [.agg [.int .i64 0, .int .i64 0]], 0⟩])] rfl rfl rfl (congrArg PV.bool c4) (all1 (VRd.ntl (rd_load1 rfl (getO_N rfl rfl) rfl ta_3 rfl)) all0) ?_
          refine dops_takeW [(low, [⟨35, 8, [.agg [.int .i64 p0.Address, .int .i64 p0.Kind, .int .i64 p0.Target, .int .i64 p0.Offset, .int .i64 p0.Scale, .int .i64 p0.Error, .int .i64 p0.Drift, .int .i64 p0.Life]], 0⟩, ⟨26, 4, [.agg [.int .i64 p1.Sensor, .int .i64 p1.Time, .int .i64 p1.Span.Low, .int .i64 p1.Span.High]], 0⟩, ⟨24, 2, [.agg [.int .i64 0, .int .i64 0]], 0⟩])] rfl rfl rfl (congrArg PV.bool c4) (all1 (VRd.ntl (rd_lss rfl rfl)) all0) ?_
          refine dops_rdW [(low, [⟨35, 8, [.agg [.int .i64 p0.Address, .int .i64 p0.Kind, .int .i64 p0.Target, .int .i64 p0.Offset, .int .i64 p0.Scale, .int .i64 p0.Error, .int .i64 p0.Drift, .int .i64 p0.Life]], 0⟩, ⟨26, 4, [.agg [.int .i64 p1.Sensor, .int .i64 p1.Time, .int .i64 p1.Span.Low, .int .i64 p1.Span.High]], 0⟩, ⟨24, 2, [.agg [.int .i64 0, .int .i64 0]], 0⟩])] rfl rfl (all1 (VRd.ntl (rd_pickF (congrArg PV.bool c4) rfl)) all0) ?_
          refine dops_rdW [(low, [⟨35, 8, [.agg [.int .i64 p0.Address, .int .i64 p0.Kind, .int .i64 p0.Target, .int .i64 p0.Offset, .int .i64 p0.Scale, .int .i64 p0.Error, .int .i64 p0.Drift, .int .i64 p0.Life]], 0⟩, ⟨26, 4, [.agg [.int .i64 p1.Sensor, .int .i64 p1.Time, .int .i64 p1.Span.Low, .int .i64 p1.Span.High]], 0⟩, ⟨24, 2, [.agg [.int .i64 0, .int .i64 0]], 0⟩])] rfl rfl (all1 (VRd.ntl (rd_mvB rfl)) all0) ?_
          refine dops_skip rfl rfl rfl (neT c5) ?_
          refine dops_skip rfl rfl rfl (neT c5) ?_
          refine dops_skip rfl rfl rfl (neT c5) ?_
          refine dops_skip rfl rfl rfl (neT c5) ?_
          refine dops_rdW [(low, [⟨35, 8, [.agg [.int .i64 p0.Address, .int .i64 p0.Kind, .int .i64 p0.Target, .int .i64 p0.Offset, .int .i64 p0.Scale, .int .i64 p0.Error, .int .i64 p0.Drift, .int .i64 p0.Life]], 0⟩, ⟨26, 4, [.agg [.int .i64 p1.Sensor, .int .i64 p1.Time, .int .i64 p1.Span.Low, .int .i64 p1.Span.High]], 0⟩, ⟨24, 2, [.agg [.int .i64 0, .int .i64 0]], 0⟩])] rfl rfl (all1 (VRd.ntl (rd_pickT (congrArg PV.bool c5) rfl)) all0) ?_
          refine dops_rdW [(low, [⟨35, 8, [.agg [.int .i64 p0.Address, .int .i64 p0.Kind, .int .i64 p0.Target, .int .i64 p0.Offset, .int .i64 p0.Scale, .int .i64 p0.Error, .int .i64 p0.Drift, .int .i64 p0.Life]], 0⟩, ⟨26, 4, [.agg [.int .i64 p1.Sensor, .int .i64 p1.Time, .int .i64 p1.Span.Low, .int .i64 p1.Span.High]], 0⟩, ⟨24, 2, [.agg [.int .i64 0, .int .i64 0]], 0⟩])] rfl rfl (all1 (VRd.ntl (rd_mvB rfl)) all0) ?_
          refine dops_skip rfl rfl rfl (by decide) ?_
          refine dops_skip rfl rfl rfl (by decide) ?_
          refine dops_skip rfl rfl rfl (by decide) ?_
          refine dops_skip rfl rfl rfl (by decide) ?_
          refine dops_rdW [(low, [⟨35, 8, [.agg [.int .i64 p0.Address, .int .i64 p0.Kind, .int .i64 p0.Target, .int .i64 p0.Offset, .int .i64 p0.Scale, .int .i64 p0.Error, .int .i64 p0.Drift, .int .i64 p0.Life]], 0⟩, ⟨26, 4, [.agg [.int .i64 p1.Sensor, .int .i64 p1.Time, .int .i64 p1.Span.Low, .int .i64 p1.Span.High]], 0⟩, ⟨24, 2, [.agg [.int .i64 0, .int .i64 0]], 0⟩])] rfl rfl (all1 (VRd.ntl (rd_pickT rfl rfl)) all0) ?_
          refine dops_rdW [(low, [⟨35, 8, [.agg [.int .i64 p0.Address, .int .i64 p0.Kind, .int .i64 p0.Target, .int .i64 p0.Offset, .int .i64 p0.Scale, .int .i64 p0.Error, .int .i64 p0.Drift, .int .i64 p0.Life]], 0⟩, ⟨26, 4, [.agg [.int .i64 p1.Sensor, .int .i64 p1.Time, .int .i64 p1.Span.Low, .int .i64 p1.Span.High]], 0⟩, ⟨24, 2, [.agg [.int .i64 0, .int .i64 0]], 0⟩])] rfl rfl (all1 (VRd.ntl (rd_mvB rfl)) all0) ?_
          refine dops_skip rfl rfl rfl (by decide) ?_
          refine dops_skip rfl rfl rfl (by decide) ?_
          refine dops_skip rfl rfl rfl (by decide) ?_
          refine dops_skip rfl rfl rfl (by decide) ?_
          refine dops_skip rfl rfl rfl (by decide) ?_
          refine dops_skip rfl rfl rfl (by decide) ?_
          refine dops_skip rfl rfl rfl (by decide) ?_
          refine dops_rdW [(low, [⟨35, 8, [.agg [.int .i64 p0.Address, .int .i64 p0.Kind, .int .i64 p0.Target, .int .i64 p0.Offset, .int .i64 p0.Scale, .int .i64 p0.Error, .int .i64 p0.Drift, .int .i64 p0.Life]], 0⟩, ⟨26, 4, [.agg [.int .i64 p1.Sensor, .int .i64 p1.Time, .int .i64 p1.Span.Low, .int .i64 p1.Span.High]], 0⟩, ⟨24, 2, [.agg [.int .i64 0, .int .i64 0]], 0⟩])] rfl rfl (all1 (VRd.ntl (rd_pickT rfl rfl)) all0) ?_
          refine dops_nil ?_
          obtain rfl := Option.some.inj hF
          refine onlyE ?_
          exact weak_sub ⟨rfl, rfl, rfl, rfl, rfl, trivial⟩
        · have hF := bifF c5 hF
          obtain ⟨x6, h7, hF⟩ := bnd hF
          rcases Bool.eq_false_or_eq_true ((p1.Span.Low == x6.Low) && ((p1.Span.High == x6.High) && true)) with c8 | c8
          · have hF := bifT c8 hF
            refine vwp_drawn [[], [0], [0, 1], [0, 1, 2], [0, 1, 2, 3], [0, 1, 2, 3, 4], [0, 1, 2, 3, 4, 5], [0, 1, 2, 3, 4, 5, 6], [0, 1, 2, 3, 4, 5, 6, 7], [0, 1, 2, 3, 4, 5, 6, 7, 8], [0, 1, 2, 3, 4, 5, 6, 7, 8, 9], [0, 1, 2, 3, 4, 5, 6, 7, 8], [0, 1, 2, 3, 4, 5, 6, 7, 8, 9, 10, 11], [0, 1, 2, 3, 4, 5, 6, 7, 8, 9, 10, 11, 12], [0, 1, 2, 3, 4, 5, 6, 7, 8, 9, 10, 11, 12, 13], [0, 1, 2, 3, 4, 5, 6, 7, 8, 9, 10, 11, 12, 13, 14], [0, 1, 2, 3, 4, 5, 6, 7, 8, 9, 10, 11, 12, 13, 14], [0, 1, 2, 3, 4, 5, 6, 7, 8, 9, 10, 11, 12, 13, 14, 16], [0, 1, 2, 3, 4, 5, 6, 7, 8, 9, 10, 11, 12, 13, 14, 15, 16, 17], [0, 1, 2, 3, 4, 5, 6, 7, 8, 9, 10, 11, 12, 13, 14, 15, 16, 17, 18], [0, 1, 2, 3, 4, 5, 6, 7, 8, 9, 10, 11, 12, 13, 14, 15, 16, 17, 18, 19], [0, 1, 2, 3, 4, 5, 6, 7, 8, 9, 10, 11, 12, 13, 14, 15, 16, 17, 18, 19, 20], [0, 1, 2, 3, 4, 5, 6, 7, 8, 9, 10, 11, 12, 13, 14, 15, 16, 17, 18, 19, 20], [0, 1, 2, 3, 4, 5, 6, 7, 8, 9, 10, 11, 12, 13, 14, 15, 16, 17, 18, 19, 20, 22], [0, 1, 2, 3, 4, 5, 6, 7, 8, 9, 10, 11, 12, 13, 14, 15, 16, 17, 18, 19, 20, 21, 22, 23], [0, 1, 2, 3, 4, 5, 6, 7, 8, 9, 10, 11, 12, 13, 14, 15, 16, 17, 18, 19, 20], [0, 1, 2, 3, 4, 5, 6, 7, 8, 9, 10, 11, 12, 13, 14, 15, 16, 17, 18, 19, 20, 25], [0, 1, 2, 3, 4, 5, 6, 7, 8, 9, 10, 11, 12, 13, 14, 15, 16, 17, 18, 19, 20, 21, 22, 23, 24, 25, 26], [0, 1, 2, 3, 4, 5, 6, 7, 8, 9, 10, 11, 12, 13, 14, 15, 16, 17, 18, 19, 20, 21, 22, 23, 24, 25, 26, 27]] [false, false, false, false, false, false, false, false, false, false, false, false, false, false, false, false, false, false, false, false, false, false, false, false, false, false, false, false, false] [(low, [⟨35, 8, [.agg [.int .i64 p0.Address, .int .i64 p0.Kind, .int .i64 p0.Target, .int .i64 p0.Offset, .int .i64 p0.Scale, .int .i64 p0.Error, .int .i64 p0.Drift, .int .i64 p0.Life]], 0⟩, ⟨26, 4, [.agg [.int .i64 p1.Sensor, .int .i64 p1.Time, .int .i64 p1.Span.Low, .int .i64 p1.Span.High]], 0⟩, ⟨24, 2, [.agg [.int .i64 0, .int .i64 0]], 0⟩])] mixed (by kernel_rfl) rfl (lenAll (all1 rfl all0)) rfl (low, [⟨35, 8, [.agg [.int .i64 p0.Address, .int .i64 p0.Kind, .int .i64 p0.Target, .int .i64 p0.Offset, .int .i64 p0.Scale, .int .i64 p0.Error, .int .i64 p0.Drift, .int .i64 p0.Life]], 0⟩, ⟨26, 4, [.agg [.int .i64 p1.Sensor, .int .i64 p1.Time, .int .i64 p1.Span.Low, .int .i64 p1.Span.High]], 0⟩, ⟨24, 2, [.agg [.int .i64 0, .int .i64 0]], 0⟩]) rfl rfl ?_
            refine dops_rdW [(low, [⟨35, 8, [.agg [.int .i64 p0.Address, .int .i64 p0.Kind, .int .i64 p0.Target, .int .i64 p0.Offset, .int .i64 p0.Scale, .int .i64 p0.Error, .int .i64 p0.Drift, .int .i64 p0.Life]], 0⟩, ⟨26, 4, [.agg [.int .i64 p1.Sensor, .int .i64 p1.Time, .int .i64 p1.Span.Low, .int .i64 p1.Span.High]], 0⟩, ⟨24, 2, [.agg [.int .i64 0, .int .i64 0]], 0⟩])] rfl rfl (all1 (VRd.ntl (rd_loadN (ds := [.int .i64 p0.Address, .int .i64 p0.Kind, .int .i64 p0.Target, .int .i64 p0.Offset, .int .i64 p0.Scale, .int .i64 p0.Error, .int .i64 p0.Drift, .int .i64 p0.Life]) rfl (getO_N rfl rfl) rfl ta_35 ts_35 rfl rfl rfl)) all0) ?_
            refine dops_rdW [(low, [⟨35, 8, [.agg [.int .i64 p0.Address, .int .i64 p0.Kind, .int .i64 p0.Target, .int .i64 p0.Offset, .int .i64 p0.Scale, .int .i64 p0.Error, .int .i64 p0.Drift, .int .i64 p0.Life]], 0⟩, ⟨26, 4, [.agg [.int .i64 p1.Sensor, .int .i64 p1.Time, .int .i64 p1.Span.Low, .int .i64 p1.Span.High]], 0⟩, ⟨24, 2, [.agg [.int .i64 0, .int .i64 0]], 0⟩])] rfl rfl (all1 (nt_of (vef_callP rfl Try.call27 (F_ref05_Check_ok h3 _))) all0) ?_
            refine dops_rdW [(low, [⟨35, 8, [.agg [.int .i64 p0.Address, .int .i64 p0.Kind, .int .i64 p0.Target, .int .i64 p0.Offset, .int .i64 p0.Scale, .int .i64 p0.Error, .int .i64 p0.Drift, .int .i64 p0.Life]], 0⟩, ⟨26, 4, [.agg [.int .i64 p1.Sensor, .int .i64 p1.Time, .int .i64 p1.Span.Low, .int .i64 p1.Span.High]], 0⟩, ⟨24, 2, [.agg [.int .i64 0, .int .i64 0]], 0⟩])] rfl rfl (all1 (VRd.ntl (rd_neq rfl rfl)) all0) ?_
            refine dops_rdW [(low, [⟨35, 8, [.agg [.int .i64 p0.Address, .int .i64 p0.Kind, .int .i64 p0.Target, .int .i64 p0.Offset, .int .i64 p0.Scale, .int .i64 p0.Error, .int .i64 p0.Drift, .int .i64 p0.Life]], 0⟩, ⟨26, 4, [.agg [.int .i64 p1.Sensor, .int .i64 p1.Time, .int .i64 p1.Span.Low, .int .i64 p1.Span.High]], 0⟩, ⟨24, 2, [.agg [.int .i64 0, .int .i64 0]], 0⟩])] rfl rfl (all1 (VRd.ntl (rd_mvB rfl)) all0) ?_
            refine dops_takeW [(low, [⟨35, 8, [.agg [.int .i64 p0.Address, .int .i64 p0.Kind, .int .i64 p0.Target, .int .i64 p0.Offset, .int .i64 p0.Scale, .int .i64 p0.Error, .int .i64 p0.Drift, .int .i64 p0.Life]], 0⟩, ⟨26, 4, [.agg [.int .i64 p1.Sensor, .int .i64 p1.Time, .int .i64 p1.Span.Low, .int .i64 p1.Span.High]], 0⟩, ⟨24, 2, [.agg [.int .i64 0, .int .i64 0]], 0⟩])] rfl rfl rfl (congrArg PV.bool c4) (all1 (VRd.ntl (rd_fieldAddr rfl tf_26_0 ts_3 (by decide))) all0) ?_
            refine dops_takeW [(low, [⟨35, 8, [.agg [.int .i64 p0.Address, .int .i64 p0.Kind, .int .i64 p0.Target, .int .i64 p0.Offset, .int .i64 p0.Scale, .int .i64 p0.Error, .int .i64 p0.Drift, .int .i64 p0.Life]], 0⟩, ⟨26, 4, [.agg [.int .i64 p1.Sensor, .int .i64 p1.Time, .int .i64 p1.Span.Low, .int .i64 p1.Span.High]], 0⟩, ⟨24, 2, [.agg [.int .i64 0, .int .i64 0]], 0⟩])] rfl rfl rfl (congrArg PV.bool c4) (all1 (VRd.ntl (rd_load1 rfl (getO_N rfl rfl) rfl ta_3 rfl)) all0) ?_
            refine dops_takeW [(low, [⟨35, 8, [.agg [.int .i64 p0.Address, .int .i64 p0.Kind, .int .i64 p0.Target, .int .i64 p0.Offset, .int .i64 p0.Scale, .int .i64 p0.Error, .int .i64 p0.Drift, .int .i64 p0.Life]], 0⟩, ⟨26, 4, [.agg [.int .i64 p1.Sensor, .int .i64 p1.Time, .int .i64 p1.Span.Low, .int .i64 p1.Span.High]], 0⟩, ⟨24, 2, [.agg [.int .i64 0, .int .i64 0]], 0⟩])] rfl rfl rfl (congrArg PV.bool c4) (all1 (VRd.ntl (rd_lss rfl rfl)) all0) ?_
            refine dops_rdW [(low, [⟨35, 8, [.agg [.int .i64 p0.Address, .int .i64 p0.Kind, .int .i64 p0.Target, .int .i64 p0.Offset, .int .i64 p0.Scale, .int .i64 p0.Error, .int .i64 p0.Drift, .int .i64 p0.Life]], 0⟩, ⟨26, 4, [.agg [.int .i64 p1.Sensor, .int .i64 p1.Time, .int .i64 p1.Span.Low, .int .i64 p1.Span.High]], 0⟩, ⟨24, 2, [.agg [.int .i64 0, .int .i64 0]], 0⟩])] rfl rfl (all1 (VRd.ntl (rd_pickF (congrArg PV.bool c4) rfl)) all0) ?_
            refine dops_rdW [(low, [⟨35, 8, [.agg [.int .i64 p0.Address, .int .i64 p0.Kind, .int .i64 p0.Target, .int .i64 p0.Offset, .int .i64 p0.Scale, .int .i64 p0.Error, .int .i64 p0.Drift, .int .i64 p0.Life]], 0⟩, ⟨26, 4, [.agg [.int .i64 p1.Sensor, .int .i64 p1.Time, .int .i64 p1.Span.Low, .int .i64 p1.Span.High]], 0⟩, ⟨24, 2, [.agg [.int .i64 0, .int .i64 0]], 0⟩])] rfl rfl (all1 (VRd.ntl (rd_mvB rfl)) all0) ?_
            refine dops_takeW [(low, [⟨35, 8, [.agg [.int .i64 p0.Address, .int .i64 p0.Kind, .int .i64 p0.Target, .int .i64 p0.Offset, .int .i64 p0.Scale, .int .i64 p0.Error, .int .i64 p0.Drift, .int .i64 p0.Life]], 0⟩, ⟨26, 4, [.agg [.int .i64 p1.Sensor, .int .i64 p1.Time, .int .i64 p1.Span.Low, .int .i64 p1.Span.High]], 0⟩, ⟨24, 2, [.agg [.int .i64 0, .int .i64 0]], 0⟩])] rfl rfl rfl (congrArg PV.bool c5) (all1 (VRd.ntl (rd_fieldAddr rfl tf_26_2 ts_24 (by decide))) all0) ?_
            refine dops_takeW [(low, [⟨35, 8, [.agg [.int .i64 p0.Address, .int .i64 p0.Kind, .int .i64 p0.Target, .int .i64 p0.Offset, .int .i64 p0.Scale, .int .i64 p0.Error, .int .i64 p0.Drift, .int .i64 p0.Life]], 0⟩, ⟨26, 4, [.agg [.int .i64 p1.Sensor, .int .i64 p1.Time, .int .i64 p1.Span.Low, .int .i64 p1.Span.High]], 0⟩, ⟨24, 2, [.agg [.int .i64 0, .int .i64 0]], 0⟩])] rfl rfl rfl (congrArg PV.bool c5) (all1 (VRd.ntl (rd_loadN (ds := [.int .i64 p1.Span.Low, .int .i64 p1.Span.High]) rfl (getO_N rfl rfl) rfl ta_24 ts_24 rfl rfl rfl)) all0) ?_
            refine dops_takeW [(low, [⟨35, 8, [.agg [.int .i64 p0.Address, .int .i64 p0.Kind, .int .i64 p0.Target, .int .i64 p0.Offset, .int .i64 p0.Scale, .int .i64 p0.Error, .int .i64 p0.Drift, .int .i64 p0.Life]], 0⟩, ⟨26, 4, [.agg [.int .i64 p1.Sensor, .int .i64 p1.Time, .int .i64 p1.Span.Low, .int .i64 p1.Span.High]], 0⟩, ⟨24, 2, [.agg [.int .i64 0, .int .i64 0]], 0⟩])] rfl rfl rfl (congrArg PV.bool c5) (all1 (nt_of (vef_callP rfl Try.call18 (F_ref05_Nothing_ok h7 _))) all0) ?_
            refine dops_takeW [(low, [⟨35, 8, [.agg [.int .i64 p0.Address, .int .i64 p0.Kind, .int .i64 p0.Target, .int .i64 p0.Offset, .int .i64 p0.Scale, .int .i64 p0.Error, .int .i64 p0.Drift, .int .i64 p0.Life]], 0⟩, ⟨26, 4, [.agg [.int .i64 p1.Sensor, .int .i64 p1.Time, .int .i64 p1.Span.Low, .int .i64 p1.Span.High]], 0⟩, ⟨24, 2, [.agg [.int .i64 0, .int .i64 0]], 0⟩])] rfl rfl rfl (congrArg PV.bool c5) (all1 (VRd.ntl (rd_eqlV (tab := eqTab) eqTab_ok rfl rfl eqg_24 rfl)) all0) ?_
            refine dops_rdW [(low, [⟨35, 8, [.agg [.int .i64 p0.Address, .int .i64 p0.Kind, .int .i64 p0.Target, .int .i64 p0.Offset, .int .i64 p0.Scale, .int .i64 p0.Error, .int .i64 p0.Drift, .int .i64 p0.Life]], 0⟩, ⟨26, 4, [.agg [.int .i64 p1.Sensor, .int .i64 p1.Time, .int .i64 p1.Span.Low, .int .i64 p1.Span.High]], 0⟩, ⟨24, 2, [.agg [.int .i64 0, .int .i64 0]], 0⟩])] rfl rfl (all1 (VRd.ntl (rd_pickF (congrArg PV.bool c5) rfl)) all0) ?_
            refine dops_rdW [(low, [⟨35, 8, [.agg [.int .i64 p0.Address, .int .i64 p0.Kind, .int .i64 p0.Target, .int .i64 p0.Offset, .int .i64 p0.Scale, .int .i64 p0.Error, .int .i64 p0.Drift, .int .i64 p0.Life]], 0⟩, ⟨26, 4, [.agg [.int .i64 p1.Sensor, .int .i64 p1.Time, .int .i64 p1.Span.Low, .int .i64 p1.Span.High]], 0⟩, ⟨24, 2, [.agg [.int .i64 0, .int .i64 0]], 0⟩])] rfl rfl (all1 (VRd.ntl (rd_mvB rfl)) all0) ?_
            refine dops_skip rfl rfl rfl (neT c8) ?_
            refine dops_skip rfl rfl rfl (neT c8) ?_
            refine dops_skip rfl rfl rfl (neT c8) ?_
            refine dops_skip rfl rfl rfl (neT c8) ?_
            refine dops_rdW [(low, [⟨35, 8, [.agg [.int .i64 p0.Address, .int .i64 p0.Kind, .int .i64 p0.Target, .int .i64 p0.Offset, .int .i64 p0.Scale, .int .i64 p0.Error, .int .i64 p0.Drift, .int .i64 p0.Life]], 0⟩, ⟨26, 4, [.agg [.int .i64 p1.Sensor, .int .i64 p1.Time, .int .i64 p1.Span.Low, .int .i64 p1.Span.High]], 0⟩, ⟨24, 2, [.agg [.int .i64 0, .int .i64 0]], 0⟩])] rfl rfl (all1 (VRd.ntl (rd_pickT (congrArg PV.bool c8) rfl)) all0) ?_
            refine dops_rdW [(low, [⟨35, 8, [.agg [.int .i64 p0.Address, .int .i64 p0.Kind, .int .i64 p0.Target, .int .i64 p0.Offset, .int .i64 p0.Scale, .int .i64 p0.Error, .int .i64 p0.Drift, .int .i64 p0.Life]], 0⟩, ⟨26, 4, [.agg [.int .i64 p1.Sensor, .int .i64 p1.Time, .int .i64 p1.Span.Low, .int .i64 p1.Span.High]], 0⟩, ⟨24, 2, [.agg [.int .i64 0, .int .i64 0]], 0⟩])] rfl rfl (all1 (VRd.ntl (rd_mvB rfl)) all0) ?_
            refine dops_skip rfl rfl rfl (by decide) ?_
            refine dops_skip rfl rfl rfl (by decide) ?_
            refine dops_skip rfl rfl rfl (by decide) ?_
            refine dops_skip rfl rfl rfl (by decide) ?_
            refine dops_skip rfl rfl rfl (by decide) ?_
            refine dops_skip rfl rfl rfl (by decide) ?_
            refine dops_skip rfl rfl rfl (by decide) ?_
            refine dops_rdW [(low, [⟨35, 8, [.agg [.int .i64 p0.Address, .int .i64 p0.Kind, .int .i64 p0.Target, .int .i64 p0.Offset, .int .i64 p0.Scale, .int .i64 p0.Error, .int .i64 p0.Drift, .int .i64 p0.Life]], 0⟩, ⟨26, 4, [.agg [.int .i64 p1.Sensor, .int .i64 p1.Time, .int .i64 p1.Span.Low, .int .i64 p1.Span.High]], 0⟩, ⟨24, 2, [.agg [.int .i64 0, .int .i64 0]], 0⟩])] rfl rfl (all1 (VRd.ntl (rd_pickT rfl rfl)) all0) ?_
            refine dops_nil ?_
            obtain rfl := Option.some.inj hF
            refine onlyE ?_
            exact weak_sub ⟨rfl, rfl, rfl, rfl, rfl, trivial⟩
          · have hF := bifF c8 hF
            rcases Bool.eq_false_or_eq_true (decide (p2 < p1.Time)) with c9 | c9
            · have hF := bifT c9 hF
              refine vwp_drawn [[], [0], [0, 1], [0, 1, 2], [0, 1, 2, 3], [0, 1, 2, 3, 4], [0, 1, 2, 3, 4, 5], [0, 1, 2, 3, 4, 5, 6], [0, 1, 2, 3, 4, 5, 6, 7], [0, 1, 2, 3, 4, 5, 6, 7, 8], [0, 1, 2, 3, 4, 5, 6, 7, 8, 9], [0, 1, 2, 3, 4, 5, 6, 7, 8], [0, 1, 2, 3, 4, 5, 6, 7, 8, 9, 10, 11], [0, 1, 2, 3, 4, 5, 6, 7, 8, 9, 10, 11, 12], [0, 1, 2, 3, 4, 5, 6, 7, 8, 9, 10, 11, 12, 13], [0, 1, 2, 3, 4, 5, 6, 7, 8, 9, 10, 11, 12, 13, 14], [0, 1, 2, 3, 4, 5, 6, 7, 8, 9, 10, 11, 12, 13, 14], [0, 1, 2, 3, 4, 5, 6, 7, 8, 9, 10, 11, 12, 13, 14, 16], [0, 1, 2, 3, 4, 5, 6, 7, 8, 9, 10, 11, 12, 13, 14, 15, 16, 17], [0, 1, 2, 3, 4, 5, 6, 7, 8, 9, 10, 11, 12, 13, 14, 15, 16, 17, 18], [0, 1, 2, 3, 4, 5, 6, 7, 8, 9, 10, 11, 12, 13, 14, 15, 16, 17, 18, 19], [0, 1, 2, 3, 4, 5, 6, 7, 8, 9, 10, 11, 12, 13, 14, 15, 16, 17, 18, 19, 20], [0, 1, 2, 3, 4, 5, 6, 7, 8, 9, 10, 11, 12, 13, 14, 15, 16, 17, 18, 19, 20], [0, 1, 2, 3, 4, 5, 6, 7, 8, 9, 10, 11, 12, 13, 14, 15, 16, 17, 18, 19, 20, 22], [0, 1, 2, 3, 4, 5, 6, 7, 8, 9, 10, 11, 12, 13, 14, 15, 16, 17, 18, 19, 20, 21, 22, 23], [0, 1, 2, 3, 4, 5, 6, 7, 8, 9, 10, 11, 12, 13, 14, 15, 16, 17, 18, 19, 20], [0, 1, 2, 3, 4, 5, 6, 7, 8, 9, 10, 11, 12, 13, 14, 15, 16, 17, 18, 19, 20, 25], [0, 1, 2, 3, 4, 5, 6, 7, 8, 9, 10, 11, 12, 13, 14, 15, 16, 17, 18, 19, 20, 21, 22, 23, 24, 25, 26], [0, 1, 2, 3, 4, 5, 6, 7, 8, 9, 10, 11, 12, 13, 14, 15, 16, 17, 18, 19, 20, 21, 22, 23, 24, 25, 26, 27]] [false, false, false, false, false, false, false, false, false, false, false, false, false, false, false, false, false, false, false, false, false, false, false, false, false, false, false, false, false] [(low, [⟨35, 8, [.agg [.int .i64 p0.Address, .int .i64 p0.Kind, .int .i64 p0.Target, .int .i64 p0.Offset, .int .i64 p0.Scale, .int .i64 p0.Error, .int .i64 p0.Drift, .int .i64 p0.Life]], 0⟩, ⟨26, 4, [.agg [.int .i64 p1.Sensor, .int .i64 p1.Time, .int .i64 p1.Span.Low, .int .i64 p1.Span.High]], 0⟩, ⟨24, 2, [.agg [.int .i64 0, .int .i64 0]], 0⟩])] mixed (by kernel_rfl) rfl (lenAll (all1 rfl all0)) rfl (low, [⟨35, 8, [.agg [.int .i64 p0.Address, .int .i64 p0.Kind, .int .i64 p0.Target, .int .i64 p0.Offset, .int .i64 p0.Scale, .int .i64 p0.Error, .int .i64 p0.Drift, .int .i64 p0.Life]], 0⟩, ⟨26, 4, [.agg [.int .i64 p1.Sensor, .int .i64 p1.Time, .int .i64 p1.Span.Low, .int .i64 p1.Span.High]], 0⟩, ⟨24, 2, [.agg [.int .i64 0, .int .i64 0]], 0⟩]) rfl rfl ?_
              refine dops_rdW [(low, [⟨35, 8, [.agg [.int .i64 p0.Address, .int .i64 p0.Kind, .int .i64 p0.Target, .int .i64 p0.Offset, .int .i64 p0.Scale, .int .i64 p0.Error, .int .i64 p0.Drift, .int .i64 p0.Life]], 0⟩, ⟨26, 4, [.agg [.int .i64 p1.Sensor, .int .i64 p1.Time, .int .i64 p1.Span.Low, .int .i64 p1.Span.High]], 0⟩, ⟨24, 2, [.agg [.int .i64 0, .int .i64 0]], 0⟩])] rfl rfl (all1 (VRd.ntl (rd_loadN (ds := [.int .i64 p0.Address, .int .i64 p0.Kind, .int .i64 p0.Target, .int .i64 p0.Offset, .int .i64 p0.Scale, .int .i64 p0.Error, .int .i64 p0.Drift, .int .i64 p0.Life]) rfl (getO_N rfl rfl) rfl ta_35 ts_35 rfl rfl rfl)) all0) ?_
              refine dops_rdW [(low, [⟨35, 8, [.agg [.int .i64 p0.Address, .int .i64 p0.Kind, .int .i64 p0.Target, .int .i64 p0.Offset, .int .i64 p0.Scale, .int .i64 p0.Error, .int .i64 p0.Drift, .int .i64 p0.Life]], 0⟩, ⟨26, 4, [.agg [.int .i64 p1.Sensor, .int .i64 p1.Time, .int .i64 p1.Span.Low, .int .i64 p1.Span.High]], 0⟩, ⟨24, 2, [.agg [.int .i64 0, .int .i64 0]], 0⟩])] rfl rfl (all1 (nt_of (vef_callP rfl Try.call27 (F_ref05_Check_ok h3 _))) all0) ?_
              refine dops_rdW [(low, [⟨35, 8, [.agg [.int .i64 p0.Address, .int .i64 p0.Kind, .int .i64 p0.Target, .int .i64 p0.Offset, .int .i64 p0.Scale, .int .i64 p0.Error, .int .i64 p0.Drift, .int .i64 p0.Life]], 0⟩, ⟨26, 4, [.agg [.int .i64 p1.Sensor, .int .i64 p1.Time, .int .i64 p1.Span.Low, .int .i64 p1.Span.High]], 0⟩, ⟨24, 2, [.agg [.int .i64 0, .int .i64 0]], 0⟩])] rfl rfl (all1 (VRd.ntl (rd_neq rfl rfl)) all0) ?_
              refine dops_rdW [(low, [⟨35, 8, [.agg [.int .i64 p0.Address, .int .i64 p0.Kind, .int .i64 p0.Target, .int .i64 p0.Offset, .int .i64 p0.Scale, .int .i64 p0.Error, .int .i64 p0.Drift, .int .i64 p0.Life]], 0⟩, ⟨26, 4, [.agg [.int .i64 p1.Sensor, .int .i64 p1.Time, .int .i64 p1.Span.Low, .int .i64 p1.Span.High]], 0⟩, ⟨24, 2, [.agg [.int .i64 0, .int .i64 0]], 0⟩])] rfl rfl (all1 (VRd.ntl (rd_mvB rfl)) all0) ?_
              refine dops_takeW [(low, [⟨35, 8, [.agg [.int .i64 p0.Address, .int .i64 p0.Kind, .int .i64 p0.Target, .int .i64 p0.Offset, .int .i64 p0.Scale, .int .i64 p0.Error, .int .i64 p0.Drift, .int .i64 p0.Life]], 0⟩, ⟨26, 4, [.agg [.int .i64 p1.Sensor, .int .i64 p1.Time, .int .i64 p1.Span.Low, .int .i64 p1.Span.High]], 0⟩, ⟨24, 2, [.agg [.int .i64 0, .int .i64 0]], 0⟩])] rfl rfl rfl (congrArg PV.bool c4) (all1 (VRd.ntl (rd_fieldAddr rfl tf_26_0 ts_3 (by decide))) all0) ?_
              refine dops_takeW [(low, [⟨35, 8, [.agg [.int .i64 p0.Address, .int .i64 p0.Kind, .int .i64 p0.Target, .int .i64 p0.Offset, .int .i64 p0.Scale, .int .i64 p0.Error, .int .i64 p0.Drift, .int .i64 p0.Life]], 0⟩, ⟨26, 4, [.agg [.int .i64 p1.Sensor, .int .i64 p1.Time, .int .i64 p1.Span.Low, .int .i64 p1.Span.High]], 0⟩, ⟨24, 2, [.agg [.int .i64 0, .int .i64 0]], 0⟩])] rfl rfl rfl (congrArg PV.bool c4) (all1 (VRd.ntl (rd_load1 rfl (getO_N rfl rfl) rfl ta_3 rfl)) all0) ?_
              refine dops_takeW [(low, [⟨35, 8, [.agg [.int .i64 p0.Address, .int .i64 p0.Kind, .int .i64 p0.Target, .int .i64 p0.Offset, .int .i64 p0.Scale, .int .i64 p0.Error, .int .i64 p0.Drift, .int .i64 p0.Life]], 0⟩, ⟨26, 4, [.agg [.int .i64 p1.Sensor, .int .i64 p1.Time, .int .i64 p1.Span.Low, .int .i64 p1.Span.High]], 0⟩, ⟨24, 2, [.agg [.int .i64 0, .int .i64 0]], 0⟩])] rfl rfl rfl (congrArg PV.bool c4) (all1 (VRd.ntl (rd_lss rfl rfl)) all0) ?_
              refine dops_rdW [(low, [⟨35, 8, [.agg [.int .i64 p0.Address, .int .i64 p0.Kind, .int .i64 p0.Target, .int .i64 p0.Offset, .int .i64 p0.Scale, .int .i64 p0.Error, .int .i64 p0.Drift, .int .i64 p0.Life]], 0⟩, ⟨26, 4, [.agg [.int .i64 p1.Sensor, .int .i64 p1.Time, .int .i64 p1.Span.Low, .int .i64 p1.Span.High]], 0⟩, ⟨24, 2, [.agg [.int .i64 0, .int .i64 0]], 0⟩])] rfl rfl (all1 (VRd.ntl (rd_pickF (congrArg PV.bool c4) rfl)) all0) ?_
              refine dops_rdW [(low, [⟨35, 8, [.agg [.int .i64 p0.Address, .int .i64 p0.Kind, .int .i64 p0.Target, .int .i64 p0.Offset, .int .i64 p0.Scale, .int .i64 p0.Error, .int .i64 p0.Drift, .int .i64 p0.Life]], 0⟩, ⟨26, 4, [.agg [.int .i64 p1.Sensor, .int .i64 p1.Time, .int .i64 p1.Span.Low, .int .i64 p1.Span.High]], 0⟩, ⟨24, 2, [.agg [.int .i64 0, .int .i64 0]], 0⟩])] rfl rfl (all1 (VRd.ntl (rd_mvB rfl)) all0) ?_
              refine dops_takeW [(low, [⟨35, 8, [.agg [.int .i64 p0.Address, .int .i64 p0.Kind, .int .i64 p0.Target, .int .i64 p0.Offset, .int .i64 p0.Scale, .int .i64 p0.Error, .int .i64 p0.Drift, .int .i64 p0.Life]], 0⟩, ⟨26, 4, [.agg [.int .i64 p1.Sensor, .int .i64 p1.Time, .int .i64 p1.Span.Low, .int .i64 p1.Span.High]], 0⟩, ⟨24, 2, [.agg [.int .i64 0, .int .i64 0]], 0⟩])] rfl rfl rfl (congrArg PV.bool c5) (all1 (VRd.ntl (rd_fieldAddr rfl tf_26_2 ts_24 (by decide))) all0) ?_
              refine dops_takeW [(low, [⟨35, 8, [.agg [.int .i64 p0.Address, .int .i64 p0.Kind, .int .i64 p0.Target, .int .i64 p0.Offset, .int .i64 p0.Scale, .int .i64 p0.Error, .int .i64 p0.Drift, .int .i64 p0.Life]], 0⟩, ⟨26, 4, [.agg [.int .i64 p1.Sensor, .int .i64 p1.Time, .int .i64 p1.Span.Low, .int .i64 p1.Span.High]], 0⟩, ⟨24, 2, [.agg [.int .i64 0, .int .i64 0]], 0⟩])] rfl rfl rfl (congrArg PV.bool c5) (all1 (VRd.ntl (rd_loadN (ds := [.int .i64 p1.Span.Low, .int .i64 p1.Span.High]) rfl (getO_N rfl rfl) rfl ta_24 ts_24 rfl rfl rfl)) all0) ?_
              refine dops_takeW [(low, [⟨35, 8, [.agg [.int .i64 p0.Address, .int .i64 p0.Kind, .int .i64 p0.Target, .int .i64 p0.Offset, .int .i64 p0.Scale, .int .i64 p0.Error, .int .i64 p0.Drift, .int .i64 p0.Life]], 0⟩, ⟨26, 4, [.agg [.int .i64 p1.Sensor, .int .i64 p1.Time, .int .i64 p1.Span.Low, .int .i64 p1.Span.High]], 0⟩, ⟨24, 2, [.agg [.int .i64 0, .int .i64 0]], 0⟩])] rfl rfl rfl (congrArg PV.bool c5) (all1 (nt_of (vef_callP rfl Try.call18 (F_ref05_Nothing_ok h7 _))) all0) ?_
              refine dops_takeW [(low, [⟨35, 8, [.agg [.int .i64 p0.Address, .int .i64 p0.Kind, .int .i64 p0.Target, .int .i64 p0.Offset, .int .i64 p0.Scale, .int .i64 p0.Error, .int .i64 p0.Drift, .int .i64 p0.Life]], 0⟩, ⟨26, 4, [.agg [.int .i64 p1.Sensor, .int .i64 p1.Time, .int .i64 p1.Span.Low, .int .i64 p1.Span.High]], 0⟩, ⟨24, 2, [.agg [.int .i64 0, .int .i64 0]], 0⟩])] rfl rfl rfl (congrArg PV.bool c5) (all1 (VRd.ntl (rd_eqlV (tab := eqTab) eqTab_ok rfl rfl eqg_24 rfl)) all0) ?_
              refine dops_rdW [(low, [⟨35, 8, [.agg [.int .i64 p0.Address, .int .i64 p0.Kind, .int .i64 p0.Target, .int .i64 p0.Offset, .int .i64 p0.Scale, .int .i64 p0.Error, .int .i64 p0.Drift, .int .i64 p0.Life]], 0⟩, ⟨26, 4, [.agg [.int .i64 p1.Sensor, .int .i64 p1.Time, .int .i64 p1.Span.Low, .int .i64 p1.Span.High]], 0⟩, ⟨24, 2, [.agg [.int .i64 0, .int .i64 0]], 0⟩])] rfl rfl (all1 (VRd.ntl (rd_pickF (congrArg PV.bool c5) rfl)) all0) ?_
              refine dops_rdW [(low, [⟨35, 8, [.agg [.int .i64 p0.Address, .int .i64 p0.Kind, .int .i64 p0.Target, .int .i64 p0.Offset, .int .i64 p0.Scale, .int .i64 p0.Error, .int .i64 p0.Drift, .int .i64 p0.Life]], 0⟩, ⟨26, 4, [.agg [.int .i64 p1.Sensor, .int .i64 p1.Time, .int .i64 p1.Span.Low, .int .i64 p1.Span.High]], 0⟩, ⟨24, 2, [.agg [.int .i64 0, .int .i64 0]], 0⟩])] rfl rfl (all1 (VRd.ntl (rd_mvB rfl)) all0) ?_
              refine dops_takeW [(low, [⟨35, 8, [.agg [.int .i64 p0.Address, .int .i64 p0.Kind, .int .i64 p0.Target, .int .i64 p0.Offset, .int .i64 p0.Scale, .int .i64 p0.Error, .int .i64 p0.Drift, .int .i64 p0.Life]], 0⟩, ⟨26, 4, [.agg [.int .i64 p1.Sensor, .int .i64 p1.Time, .int .i64 p1.Span.Low, .int .i64 p1.Span.High]], 0⟩, ⟨24, 2, [.agg [.int .i64 0, .int .i64 0]], 0⟩])] rfl rfl rfl (congrArg PV.bool c8) (all1 (VRd.ntl (rd_mvI rfl)) all0) ?_
              refine dops_takeW [(low, [⟨35, 8, [.agg [.int .i64 p0.Address, .int .i64 p0.Kind, .int .i64 p0.Target, .int .i64 p0.Offset, .int .i64 p0.Scale, .int .i64 p0.Error, .int .i64 p0.Drift, .int .i64 p0.Life]], 0⟩, ⟨26, 4, [.agg [.int .i64 p1.Sensor, .int .i64 p1.Time, .int .i64 p1.Span.Low, .int .i64 p1.Span.High]], 0⟩, ⟨24, 2, [.agg [.int .i64 0, .int .i64 0]], 0⟩])] rfl rfl rfl (congrArg PV.bool c8) (all1 (VRd.ntl (rd_fieldAddr rfl tf_26_1 ts_3 (by decide))) all0) ?_
              refine dops_takeW [(low, [⟨35, 8, [.agg [.int .i64 p0.Address, .int .i64 p0.Kind, .int .i64 p0.Target, .int .i64 p0.Offset, .int .i64 p0.Scale, .int .i64 p0.Error, .int .i64 p0.Drift, .int .i64 p0.Life]], 0⟩, ⟨26, 4, [.agg [.int .i64 p1.Sensor, .int .i64 p1.Time, .int .i64 p1.Span.Low, .int .i64 p1.Span.High]], 0⟩, ⟨24, 2, [.agg [.int .i64 0, .int .i64 0]], 0⟩])] rfl rfl rfl (congrArg PV.bool c8) (all1 (VRd.ntl (rd_load1 rfl (getO_N rfl rfl) rfl ta_3 rfl)) all0) ?_
              refine dops_takeW [(low, [⟨35, 8, [.agg [.int .i64 p0.Address, .int .i64 p0.Kind, .int .i64 p0.Target, .int .i64 p0.Offset, .int .i64 p0.Scale, .int .i64 p0.Error, .int .i64 p0.Drift, .int .i64 p0.Life]], 0⟩, ⟨26, 4, [.agg [.int .i64 p1.Sensor, .int .i64 p1.Time, .int .i64 p1.Span.Low, .int .i64 p1.Span.High]], 0⟩, ⟨24, 2, [.agg [.int .i64 0, .int .i64 0]], 0⟩])] rfl rfl rfl (congrArg PV.bool c8) (all1 (VRd.ntl (rd_lss rfl rfl)) all0) ?_
              refine dops_rdW [(low, [⟨35, 8, [.agg [.int .i64 p0.Address, .int .i64 p0.Kind, .int .i64 p0.Target, .int .i64 p0.Offset, .int .i64 p0.Scale, .int .i64 p0.Error, .int .i64 p0.Drift, .int .i64 p0.Life]], 0⟩, ⟨26, 4, [.agg [.int .i64 p1.Sensor, .int .i64 p1.Time, .int .i64 p1.Span.Low, .int .i64 p1.Span.High]], 0⟩, ⟨24, 2, [.agg [.int .i64 0, .int .i64 0]], 0⟩])] rfl rfl (all1 (VRd.ntl (rd_pickF (congrArg PV.bool c8) rfl)) all0) ?_
              refine dops_rdW [(low, [⟨35, 8, [.agg [.int .i64 p0.Address, .int .i64 p0.Kind, .int .i64 p0.Target, .int .i64 p0.Offset, .int .i64 p0.Scale, .int .i64 p0.Error, .int .i64 p0.Drift, .int .i64 p0.Life]], 0⟩, ⟨26, 4, [.agg [.int .i64 p1.Sensor, .int .i64 p1.Time, .int .i64 p1.Span.Low, .int .i64 p1.Span.High]], 0⟩, ⟨24, 2, [.agg [.int .i64 0, .int .i64 0]], 0⟩])] rfl rfl (all1 (VRd.ntl (rd_mvB rfl)) all0) ?_
              refine dops_skip rfl rfl rfl (neT c9) ?_
              refine dops_skip rfl rfl rfl (neT c9) ?_
              refine dops_skip rfl rfl rfl (neT c9) ?_
              refine dops_skip rfl rfl rfl (neT c9) ?_
              refine dops_skip rfl rfl rfl (neT c9) ?_
              refine dops_skip rfl rfl rfl (neT c9) ?_
              refine dops_skip rfl rfl rfl (neT c9) ?_
              refine dops_rdW [(low, [⟨35, 8, [.agg [.int .i64 p0.Address, .int .i64 p0.Kind, .int .i64 p0.Target, .int .i64 p0.Offset, .int .i64 p0.Scale, .int .i64 p0.Error, .int .i64 p0.Drift, .int .i64 p0.Life]], 0⟩, ⟨26, 4, [.agg [.int .i64 p1.Sensor, .int .i64 p1.Time, .int .i64 p1.Span.Low, .int .i64 p1.Span.High]], 0⟩, ⟨24, 2, [.agg [.int .i64 0, .int .i64 0]], 0⟩])] rfl rfl (all1 (VRd.ntl (rd_pickT (congrArg PV.bool c9) rfl)) all0) ?_
              refine dops_nil ?_
              obtain rfl := Option.some.inj hF
              refine onlyE ?_
              exact weak_sub ⟨rfl, rfl, rfl, rfl, rfl, trivial⟩
            · have hF := bifF c9 hF
              refine vwp_drawn [[], [0], [0, 1], [0, 1, 2], [0, 1, 2, 3], [0, 1, 2, 3, 4], [0, 1, 2, 3, 4, 5], [0, 1, 2, 3, 4, 5, 6], [0, 1, 2, 3, 4, 5, 6, 7], [0, 1, 2, 3, 4, 5, 6, 7, 8], [0, 1, 2, 3, 4, 5, 6, 7, 8, 9], [0, 1, 2, 3, 4, 5, 6, 7, 8], [0, 1, 2, 3, 4, 5, 6, 7, 8, 9, 10, 11], [0, 1, 2, 3, 4, 5, 6, 7, 8, 9, 10, 11, 12], [0, 1, 2, 3, 4, 5, 6, 7, 8, 9, 10, 11, 12, 13], [0, 1, 2, 3, 4, 5, 6, 7, 8, 9, 10, 11, 12, 13, 14], [0, 1, 2, 3, 4, 5, 6, 7, 8, 9, 10, 11, 12, 13, 14], [0, 1, 2, 3, 4, 5, 6, 7, 8, 9, 10, 11, 12, 13, 14, 16], [0, 1, 2, 3, 4, 5, 6, 7, 8, 9, 10, 11, 12, 13, 14, 15, 16, 17], [0, 1, 2, 3, 4, 5, 6, 7, 8, 9, 10, 11, 12, 13, 14, 15, 16, 17, 18], [0, 1, 2, 3, 4, 5, 6, 7, 8, 9, 10, 11, 12, 13, 14, 15, 16, 17, 18, 19], [0, 1, 2, 3, 4, 5, 6, 7, 8, 9, 10, 11, 12, 13, 14, 15, 16, 17, 18, 19, 20], [0, 1, 2, 3, 4, 5, 6, 7, 8, 9, 10, 11, 12, 13, 14, 15, 16, 17, 18, 19, 20], [0, 1, 2, 3, 4, 5, 6, 7, 8, 9, 10, 11, 12, 13, 14, 15, 16, 17, 18, 19, 20, 22], [0, 1, 2, 3, 4, 5, 6, 7, 8, 9, 10, 11, 12, 13, 14, 15, 16, 17, 18, 19, 20, 21, 22, 23], [0, 1, 2, 3, 4, 5, 6, 7, 8, 9, 10, 11, 12, 13, 14, 15, 16, 17, 18, 19, 20], [0, 1, 2, 3, 4, 5, 6, 7, 8, 9, 10, 11, 12, 13, 14, 15, 16, 17, 18, 19, 20, 25], [0, 1, 2, 3, 4, 5, 6, 7, 8, 9, 10, 11, 12, 13, 14, 15, 16, 17, 18, 19, 20, 21, 22, 23, 24, 25, 26], [0, 1, 2, 3, 4, 5, 6, 7, 8, 9, 10, 11, 12, 13, 14, 15, 16, 17, 18, 19, 20, 21, 22, 23, 24, 25, 26, 27]] [false, false, false, false, false, false, false, false, false, false, false, false, false, false, false, false, false, false, false, false, false, false, false, false, false, false, false, false, false] [(low, [⟨35, 8, [.agg [.int .i64 p0.Address, .int .i64 p0.Kind, .int .i64 p0.Target, .int .i64 p0.Offset, .int .i64 p0.Scale, .int .i64 p0.Error, .int .i64 p0.Drift, .int .i64 p0.Life]], 0⟩, ⟨26, 4, [.agg [.int .i64 p1.Sensor, .int .i64 p1.Time, .int .i64 p1.Span.Low, .int .i64 p1.Span.High]], 0⟩, ⟨24, 2, [.agg [.int .i64 0, .int .i64 0]], 0⟩])] mixed (by kernel_rfl) rfl (lenAll (all1 rfl all0)) rfl (low, [⟨35, 8, [.agg [.int .i64 p0.Address, .int .i64 p0.Kind, .int .i64 p0.Target, .int .i64 p0.Offset, .int .i64 p0.Scale, .int .i64 p0.Error, .int .i64 p0.Drift, .int .i64 p0.Life]], 0⟩, ⟨26, 4, [.agg [.int .i64 p1.Sensor, .int .i64 p1.Time, .int .i64 p1.Span.Low, .int .i64 p1.Span.High]], 0⟩, ⟨24, 2, [.agg [.int .i64 0, .int .i64 0]], 0⟩]) rfl rfl ?_
              refine dops_rdW [(low, [⟨35, 8, [.agg [.int .i64 p0.Address, .int .i64 p0.Kind, .int .i64 p0.Target, .int .i64 p0.Offset, .int .i64 p0.Scale, .int .i64 p0.Error, .int .i64 p0.Drift, .int .i64 p0.Life]], 0⟩, ⟨26, 4, [.agg [.int .i64 p1.Sensor, .int .i64 p1.Time, .int .i64 p1.Span.Low, .int .i64 p1.Span.High]], 0⟩, ⟨24, 2, [.agg [.int .i64 0, .int .i64 0]], 0⟩])] rfl rfl (all1 (VRd.ntl (rd_loadN (ds := [.int .i64 p0.Address, .int .i64 p0.Kind, .int .i64 p0.Target, .int .i64 p0.Offset, .int .i64 p0.Scale, .int .i64 p0.Error, .int .i64 p0.Drift, .int .i64 p0.Life]) rfl (getO_N rfl rfl) rfl ta_35 ts_35 rfl rfl rfl)) all0) ?_
              refine dops_rdW [(low, [⟨35, 8, [.agg [.int .i64 p0.Address, .int .i64 p0.Kind, .int .i64 p0.Target, .int .i64 p0.Offset, .int .i64 p0.Scale, .int .i64 p0.Error, .int .i64 p0.Drift, .int .i64 p0.Life]], 0⟩, ⟨26, 4, [.agg [.int .i64 p1.Sensor, .int .i64 p1.Time, .int .i64 p1.Span.Low, .int .i64 p1.Span.High]], 0⟩, ⟨24, 2, [.agg [.int .i64 0, .int .i64 0]], 0⟩])] rfl rfl (all1 (nt_of (vef_callP rfl Try.call27 (F_ref05_Check_ok h3 _))) all0) ?_
              refine dops_rdW [(low, [⟨35, 8, [.agg [.int .i64 p0.Address, .int .i64 p0.Kind, .int .i64 p0.Target, .int .i64 p0.Offset, .int .i64 p0.Scale, .int .i64 p0.Error, .int .i64 p0.Drift, .int .i64 p0.Life]], 0⟩, ⟨26, 4, [.agg [.int .i64 p1.Sensor, .int .i64 p1.Time, .int .i64 p1.Span.Low, .int .i64 p1.Span.High]], 0⟩, ⟨24, 2, [.agg [.int .i64 0, .int .i64 0]], 0⟩])] rfl rfl (all1 (VRd.ntl (rd_neq rfl rfl)) all0) ?_
              refine dops_rdW [(low, [⟨35, 8, [.agg [.int .i64 p0.Address, .int .i64 p0.Kind, .int .i64 p0.Target, .int .i64 p0.Offset, .int .i64 p0.Scale, .int .i64 p0.Error, .int .i64 p0.Drift, .int .i64 p0.Life]], 0⟩, ⟨26, 4, [.agg [.int .i64 p1.Sensor, .int .i64 p1.Time, .int .i64 p1.Span.Low, .int .i64 p1.Span.High]], 0⟩, ⟨24, 2, [.agg [.int .i64 0, .int .i64 0]], 0⟩])] rfl rfl (all1 (VRd.ntl (rd_mvB rfl)) all0) ?_
              refine dops_takeW [(low, [⟨35, 8, [.agg [.int .i64 p0.Address, .int .i64 p0.Kind, .int .i64 p0.Target, .int .i64 p0.Offset, .int .i64 p0.Scale, .int .i64 p0.Error, .int .i64 p0.Drift, .int .i64 p0.Life]], 0⟩, ⟨26, 4, [.agg [.int .i64 p1.Sensor, .int .i64 p1.Time, .int .i64 p1.Span.Low, .int .i64 p1.Span.High]], 0⟩, ⟨24, 2, [.agg [.int .i64 0, .int .i64 0]], 0⟩])] rfl rfl rfl (congrArg PV.bool c4) (all1 (VRd.ntl (rd_fieldAddr rfl tf_26_0 ts_3 (by decide))) all0) ?_
              refine dops_takeW [(low, [⟨35, 8, [.agg [.int .i64 p0.Address, .int .i64 p0.Kind, .int .i64 p0.Target, .int .i64 p0.Offset, .int .i64 p0.Scale, .int .i64 p0.Error, .int .i64 p0.Drift, .int .i64 p0.Life]], 0⟩, ⟨26, 4, [.agg [.int .i64 p1.Sensor, .int .i64 p1.Time, .int .i64 p1.Span.Low, .int .i64 p1.Span.High]], 0⟩, ⟨24, 2, [.agg [.int .i64 0, .int .i64 0]], 0⟩])] rfl rfl rfl (congrArg PV.bool c4) (all1 (VRd.ntl (rd_load1 rfl (getO_N rfl rfl) rfl ta_3 rfl)) all0) ?_
              refine dops_takeW [(low, [⟨35, 8, [.agg [.int .i64 p0.Address, .int .i64 p0.Kind, .int .i64 p0.Target, .int .i64 p0.Offset, .int .i64 p0.Scale, .int .i64 p0.Error, .int .i64 p0.Drift, .int .i64 p0.Life]], 0⟩, ⟨26, 4, [.agg [.int .i64 p1.Sensor, .int .i64 p1.Time, .int .i64 p1.Span.Low, .int .i64 p1.Span.High]], 0⟩, ⟨24, 2, [.agg [.int .i64 0, .int .i64 0]], 0⟩])] rfl rfl rfl (congrArg PV.bool c4) (all1 (VRd.ntl (rd_lss rfl rfl)) all0) ?_
              refine dops_rdW [(low, [⟨35, 8, [.agg [.int .i64 p0.Address, .int .i64 p0.Kind, .int .i64 p0.Target, .int .i64 p0.Offset, .int .i64 p0.Scale, .int .i64 p0.Error, .int .i64 p0.Drift, .int .i64 p0.Life]], 0⟩, ⟨26, 4, [.agg [.int .i64 p1.Sensor, .int .i64 p1.Time, .int .i64 p1.Span.Low, .int .i64 p1.Span.High]], 0⟩, ⟨24, 2, [.agg [.int .i64 0, .int .i64 0]], 0⟩])] rfl rfl (all1 (VRd.ntl (rd_pickF (congrArg PV.bool c4) rfl)) all0) ?_
              refine dops_rdW [(low, [⟨35, 8, [.agg [.int .i64 p0.Address, .int .i64 p0.Kind, .int .i64 p0.Target, .int .i64 p0.Offset, .int .i64 p0.Scale, .int .i64 p0.Error, .int .i64 p0.Drift, .int .i64 p0.Life]], 0⟩, ⟨26, 4, [.agg [.int .i64 p1.Sensor, .int .i64 p1.Time, .int .i64 p1.Span.Low, .int .i64 p1.Span.High]], 0⟩, ⟨24, 2, [.agg [.int .i64 0, .int .i64 0]], 0⟩])] rfl rfl (all1 (VRd.ntl (rd_mvB rfl)) all0) ?_
              refine dops_takeW [(low, [⟨35, 8, [.agg [.int .i64 p0.Address, .int .i64 p0.Kind, .int .i64 p0.Target, .int .i64 p0.Offset, .int .i64 p0.Scale, .int .i64 p0.Error, .int .i64 p0.Drift, .int .i64 p0.Life]], 0⟩, ⟨26, 4, [.agg [.int .i64 p1.Sensor, .int .i64 p1.Time, .int .i64 p1.Span.Low, .int .i64 p1.Span.High]], 0⟩, ⟨24, 2, [.agg [.int .i64 0, .int .i64 0]], 0⟩])] rfl rfl rfl (congrArg PV.bool c5) (all1 (VRd.ntl (rd_fieldAddr rfl tf_26_2 ts_24 (by decide))) all0) ?_
              refine dops_takeW [(low, [⟨35, 8, [.agg [.int .i64 p0.Address, .int .i64 p0.Kind, .int .i64 p0.Target, .int .i64 p0.Offset, .int .i64 p0.Scale, .int .i64 p0.Error, .int .i64 p0.Drift, .int .i64 p0.Life]], 0⟩, ⟨26, 4, [.agg [.int .i64 p1.Sensor, .int .i64 p1.Time, .int .i64 p1.Span.Low, .int .i64 p1.Span.High]], 0⟩, ⟨24, 2, [.agg [.int .i64 0, .int .i64 0]], 0⟩])] rfl rfl rfl (congrArg PV.bool c5) (all1 (VRd.ntl (rd_loadN (ds := [.int .i64 p1.Span.Low, .int .i64 p1.Span.High]) rfl (getO_N rfl rfl) rfl ta_24 ts_24 rfl rfl rfl)) all0) ?_
              refine dops_takeW [(low, [⟨35, 8, [.agg [.int .i64 p0.Address, .int .i64 p0.Kind, .int .i64 p0.Target, .int .i64 p0.Offset, .int .i64 p0.Scale, .int .i64 p0.Error, .int .i64 p0.Drift, .int .i64 p0.Life]], 0⟩, ⟨26, 4, [.agg [.int .i64 p1.Sensor, .int .i64 p1.Time, .int .i64 p1.Span.Low, .int .i64 p1.Span.High]], 0⟩, ⟨24, 2, [.agg [.int .i64 0, .int .i64 0]], 0⟩])] rfl rfl rfl (congrArg PV.bool c5) (all1 (nt_of (vef_callP rfl Try.call18 (F_ref05_Nothing_ok h7 _))) all0) ?_
              refine dops_takeW [(low, [⟨35, 8, [.agg [.int .i64 p0.Address, .int .i64 p0.Kind, .int .i64 p0.Target, .int .i64 p0.Offset, .int .i64 p0.Scale, .int .i64 p0.Error, .int .i64 p0.Drift, .int .i64 p0.Life]], 0⟩, ⟨26, 4, [.agg [.int .i64 p1.Sensor, .int .i64 p1.Time, .int .i64 p1.Span.Low, .int .i64 p1.Span.High]], 0⟩, ⟨24, 2, [.agg [.int .i64 0, .int .i64 0]], 0⟩])] rfl rfl rfl (congrArg PV.bool c5) (all1 (VRd.ntl (rd_eqlV (tab := eqTab) eqTab_ok rfl rfl eqg_24 rfl)) all0) ?_
              refine dops_rdW [(low, [⟨35, 8, [.agg [.int .i64 p0.Address, .int .i64 p0.Kind, .int .i64 p0.Target, .int .i64 p0.Offset, .int .i64 p0.Scale, .int .i64 p0.Error, .int .i64 p0.Drift, .int .i64 p0.Life]], 0⟩, ⟨26, 4, [.agg [.int .i64 p1.Sensor, .int .i64 p1.Time, .int .i64 p1.Span.Low, .int .i64 p1.Span.High]], 0⟩, ⟨24, 2, [.agg [.int .i64 0, .int .i64 0]], 0⟩])] rfl rfl (all1 (VRd.ntl (rd_pickF (congrArg PV.bool c5) rfl)) all0) ?_
              refine dops_rdW [(low, [⟨35, 8, [.agg [.int .i64 p0.Address, .int .i64 p0.Kind, .int .i64 p0.Target, .int .i64 p0.Offset, .int .i64 p0.Scale, .int .i64 p0.Error, .int .i64 p0.Drift, .int .i64 p0.Life]], 0⟩, ⟨26, 4, [.agg [.int .i64 p1.Sensor, .int .i64 p1.Time, .int .i64 p1.Span.Low, .int .i64 p1.Span.High]], 0⟩, ⟨24, 2, [.agg [.int .i64 0, .int .i64 0]], 0⟩])] rfl rfl (all1 (VRd.ntl (rd_mvB rfl)) all0) ?_
              refine dops_takeW [(low, [⟨35, 8, [.agg [.int .i64 p0.Address, .int .i64 p0.Kind, .int .i64 p0.Target, .int .i64 p0.Offset, .int .i64 p0.Scale, .int .i64 p0.Error, .int .i64 p0.Drift, .int .i64 p0.Life]], 0⟩, ⟨26, 4, [.agg [.int .i64 p1.Sensor, .int .i64 p1.Time, .int .i64 p1.Span.Low, .int .i64 p1.Span.High]], 0⟩, ⟨24, 2, [.agg [.int .i64 0, .int .i64 0]], 0⟩])] rfl rfl rfl (congrArg PV.bool c8) (all1 (VRd.ntl (rd_mvI rfl)) all0) ?_
              refine dops_takeW [(low, [⟨35, 8, [.agg [.int .i64 p0.Address, .int .i64 p0.Kind, .int .i64 p0.Target, .int .i64 p0.Offset, .int .i64 p0.Scale, .int .i64 p0.Error, .int .i64 p0.Drift, .int .i64 p0.Life]], 0⟩, ⟨26, 4, [.agg [.int .i64 p1.Sensor, .int .i64 p1.Time, .int .i64 p1.Span.Low, .int .i64 p1.Span.High]], 0⟩, ⟨24, 2, [.agg [.int .i64 0, .int .i64 0]], 0⟩])] rfl rfl rfl (congrArg PV.bool c8) (all1 (VRd.ntl (rd_fieldAddr rfl tf_26_1 ts_3 (by decide))) all0) ?_
              refine dops_takeW [(low, [⟨35, 8, [.agg [.int .i64 p0.Address, .int .i64 p0.Kind, .int .i64 p0.Target, .int .i64 p0.Offset, .int .i64 p0.Scale, .int .i64 p0.Error, .int .i64 p0.Drift, .int .i64 p0.Life]], 0⟩, ⟨26, 4, [.agg [.int .i64 p1.Sensor, .int .i64 p1.Time, .int .i64 p1.Span.Low, .int .i64 p1.Span.High]], 0⟩, ⟨24, 2, [.agg [.int .i64 0, .int .i64 0]], 0⟩])] rfl rfl rfl (congrArg PV.bool c8) (all1 (VRd.ntl (rd_load1 rfl (getO_N rfl rfl) rfl ta_3 rfl)) all0) ?_
              refine dops_takeW [(low, [⟨35, 8, [.agg [.int .i64 p0.Address, .int .i64 p0.Kind, .int .i64 p0.Target, .int .i64 p0.Offset, .int .i64 p0.Scale, .int .i64 p0.Error, .int .i64 p0.Drift, .int .i64 p0.Life]], 0⟩, ⟨26, 4, [.agg [.int .i64 p1.Sensor, .int .i64 p1.Time, .int .i64 p1.Span.Low, .int .i64 p1.Span.High]], 0⟩, ⟨24, 2, [.agg [.int .i64 0, .int .i64 0]], 0⟩])] rfl rfl rfl (congrArg PV.bool c8) (all1 (VRd.ntl (rd_lss rfl rfl)) all0) ?_
              refine dops_rdW [(low, [⟨35, 8, [.agg [.int .i64 p0.Address, .int .i64 p0.Kind, .int .i64 p0.Target, .int .i64 p0.Offset, .int .i64 p0.Scale, .int .i64 p0.Error, .int .i64 p0.Drift, .int .i64 p0.Life]], 0⟩, ⟨26, 4, [.agg [.int .i64 p1.Sensor, .int .i64 p1.Time, .int .i64 p1.Span.Low, .int .i64 p1.Span.High]], 0⟩, ⟨24, 2, [.agg [.int .i64 0, .int .i64 0]], 0⟩])] rfl rfl (all1 (VRd.ntl (rd_pickF (congrArg PV.bool c8) rfl)) all0) ?_
              refine dops_rdW [(low, [⟨35, 8, [.agg [.int .i64 p0.Address, .int .i64 p0.Kind, .int .i64 p0.Target, .int .i64 p0.Offset, .int .i64 p0.Scale, .int .i64 p0.Error, .int .i64 p0.Drift, .int .i64 p0.Life]], 0⟩, ⟨26, 4, [.agg [.int .i64 p1.Sensor, .int .i64 p1.Time, .int .i64 p1.Span.Low, .int .i64 p1.Span.High]], 0⟩, ⟨24, 2, [.agg [.int .i64 0, .int .i64 0]], 0⟩])] rfl rfl (all1 (VRd.ntl (rd_mvB rfl)) all0) ?_
              refine dops_takeW [(low, [⟨35, 8, [.agg [.int .i64 p0.Address, .int .i64 p0.Kind, .int .i64 p0.Target, .int .i64 p0.Offset, .int .i64 p0.Scale, .int .i64 p0.Error, .int .i64 p0.Drift, .int .i64 p0.Life]], 0⟩, ⟨26, 4, [.agg [.int .i64 p1.Sensor, .int .i64 p1.Time, .int .i64 p1.Span.Low, .int .i64 p1.Span.High]], 0⟩, ⟨24, 2, [.agg [.int .i64 0, .int .i64 0]], 0⟩])] rfl rfl rfl (congrArg PV.bool c9) (all1 (VRd.ntl (rd_mvI rfl)) all0) ?_
              refine dops_takeW [(low, [⟨35, 8, [.agg [.int .i64 p0.Address, .int .i64 p0.Kind, .int .i64 p0.Target, .int .i64 p0.Offset, .int .i64 p0.Scale, .int .i64 p0.Error, .int .i64 p0.Drift, .int .i64 p0.Life]], 0⟩, ⟨26, 4, [.agg [.int .i64 p1.Sensor, .int .i64 p1.Time, .int .i64 p1.Span.Low, .int .i64 p1.Span.High]], 0⟩, ⟨24, 2, [.agg [.int .i64 0, .int .i64 0]], 0⟩])] rfl rfl rfl (congrArg PV.bool c9) (all1 (VRd.ntl (rd_fieldAddr rfl tf_26_1 ts_3 (by decide))) all0) ?_
              refine dops_takeW [(low, [⟨35, 8, [.agg [.int .i64 p0.Address, .int .i64 p0.Kind, .int .i64 p0.Target, .int .i64 p0.Offset, .int .i64 p0.Scale, .int .i64 p0.Error, .int .i64 p0.Drift, .int .i64 p0.Life]], 0⟩, ⟨26, 4, [.agg [.int .i64 p1.Sensor, .int .i64 p1.Time, .int .i64 p1.Span.Low, .int .i64 p1.Span.High]], 0⟩, ⟨24, 2, [.agg [.int .i64 0, .int .i64 0]], 0⟩])] rfl rfl rfl (congrArg PV.bool c9) (all1 (VRd.ntl (rd_load1 rfl (getO_N rfl rfl) rfl ta_3 rfl)) all0) ?_
              refine dops_takeW [(low, [⟨35, 8, [.agg [.int .i64 p0.Address, .int .i64 p0.Kind, .int .i64 p0.Target, .int .i64 p0.Offset, .int .i64 p0.Scale, .int .i64 p0.Error, .int .i64 p0.Drift, .int .i64 p0.Life]], 0⟩, ⟨26, 4, [.agg [.int .i64 p1.Sensor, .int .i64 p1.Time, .int .i64 p1.Span.Low, .int .i64 p1.Span.High]], 0⟩, ⟨24, 2, [.agg [.int .i64 0, .int .i64 0]], 0⟩])] rfl rfl rfl (congrArg PV.bool c9) (all1 (VRd.ntl (rd_sub rfl rfl rfl)) all0) ?_
              refine dops_takeW [(low, [⟨35, 8, [.agg [.int .i64 p0.Address, .int .i64 p0.Kind, .int .i64 p0.Target, .int .i64 p0.Offset, .int .i64 p0.Scale, .int .i64 p0.Error, .int .i64 p0.Drift, .int .i64 p0.Life]], 0⟩, ⟨26, 4, [.agg [.int .i64 p1.Sensor, .int .i64 p1.Time, .int .i64 p1.Span.Low, .int .i64 p1.Span.High]], 0⟩, ⟨24, 2, [.agg [.int .i64 0, .int .i64 0]], 0⟩])] rfl rfl rfl (congrArg PV.bool c9) (all1 (VRd.ntl (rd_fieldAddr rfl tf_35_7 ts_3 (by decide))) all0) ?_
              refine dops_takeW [(low, [⟨35, 8, [.agg [.int .i64 p0.Address, .int .i64 p0.Kind, .int .i64 p0.Target, .int .i64 p0.Offset, .int .i64 p0.Scale, .int .i64 p0.Error, .int .i64 p0.Drift, .int .i64 p0.Life]], 0⟩, ⟨26, 4, [.agg [.int .i64 p1.Sensor, .int .i64 p1.Time, .int .i64 p1.Span.Low, .int .i64 p1.Span.High]], 0⟩, ⟨24, 2, [.agg [.int .i64 0, .int .i64 0]], 0⟩])] rfl rfl rfl (congrArg PV.bool c9) (all1 (VRd.ntl (rd_load1 rfl (getO_N rfl rfl) rfl ta_3 rfl)) all0) ?_
              refine dops_takeW [(low, [⟨35, 8, [.agg [.int .i64 p0.Address, .int .i64 p0.Kind, .int .i64 p0.Target, .int .i64 p0.Offset, .int .i64 p0.Scale, .int .i64 p0.Error, .int .i64 p0.Drift, .int .i64 p0.Life]], 0⟩, ⟨26, 4, [.agg [.int .i64 p1.Sensor, .int .i64 p1.Time, .int .i64 p1.Span.Low, .int .i64 p1.Span.High]], 0⟩, ⟨24, 2, [.agg [.int .i64 0, .int .i64 0]], 0⟩])] rfl rfl rfl (congrArg PV.bool c9) (all1 (VRd.ntl (rd_gtr rfl rfl)) all0) ?_
              refine dops_rdW [(low, [⟨35, 8, [.agg [.int .i64 p0.Address, .int .i64 p0.Kind, .int .i64 p0.Target, .int .i64 p0.Offset, .int .i64 p0.Scale, .int .i64 p0.Error, .int .i64 p0.Drift, .int .i64 p0.Life]], 0⟩, ⟨26, 4, [.agg [.int .i64 p1.Sensor, .int .i64 p1.Time, .int .i64 p1.Span.Low, .int .i64 p1.Span.High]], 0⟩, ⟨24, 2, [.agg [.int .i64 0, .int .i64 0]], 0⟩])] rfl rfl (all1 (VRd.ntl (rd_pickF (congrArg PV.bool c9) rfl)) all0) ?_
              refine dops_nil ?_
              obtain rfl := Option.some.inj hF
              refine onlyE ?_
              exact weak_sub ⟨rfl, rfl, rfl, rfl, rfl, trivial⟩
    · rintro _ _ _ _ ⟨rfl, hw⟩
      refine ⟨_, _, _, hw, ?_⟩
      refine vwp_cond rfl (fun c10 => ?_) (fun c10 => ?_)
      · have hF := bifT c10 hF
        refine vwp_seq ?_
        refine vwp_region ?_
        obtain ⟨x11, h12, hF⟩ := bnd hF
        refine vops_efE (vef_callP rfl Try.call18 (F_ref05_Nothing_ok h12 _)) rfl ?_
        refine vops_efE (vef_store (p := .agg [.int .i64 x11.Low, .int .i64 x11.High]) (e' := .agg [.int .i64 x11.Low, .int .i64 x11.High]) rfl (getO_N rfl rfl) rfl rfl ts_24 rfl (nt_ne rfl) rfl (Nat.le_of_ble_eq_true rfl) rfl (setO_N rfl rfl)) rfl ?_
        refine vops_nil ?_
        refine vwp_ret ?_
        obtain rfl := Option.some.inj hF
        refine fnR ?_
        exact weak_pick rfl [(2, 0)] (by decide) ⟨rn_ptr 0 2 rfl rfl, trivial⟩ ⟨⟨_, rfl, rfl, .same _ _ _ _ (ltObj_es ⟨(lt_agg ⟨.int _ _, .int _ _, trivial⟩), trivial⟩)⟩, trivial⟩
      · have hF := bifF c10 hF
        refine vwp_skip ?_
        refine vwp_seq ?_
        refine vwp_seq ?_
        refine vwp_region ?_
        obtain ⟨x13, h14, hF⟩ := bnd hF
        refine vops_rd (rd_fieldAddr rfl tf_35_1 ts_3 (by decide)) rfl ?_
        refine vops_rd (rd_load1 rfl (getO_N rfl rfl) rfl ta_3 rfl) rfl ?_
        refine vops_efE (vef_callP rfl Try.call26 (F_ref05_Stately_ok h14 _)) rfl ?_
        refine vops_nil ?_
        refine vwp_cond rfl (fun c15 => ?_) (fun c15 => ?_)
        · have hF := bifT c15 hF
          refine vwp_seq ?_
          refine vwp_region ?_
          refine vops_rd (rd_fieldAddr rfl tf_26_2 ts_24 (by decide)) rfl ?_
          refine vops_rd (rd_loadN (ds := [.int .i64 p1.Span.Low, .int .i64 p1.Span.High]) rfl (getO_N rfl rfl) rfl ta_24 ts_24 rfl rfl rfl) rfl ?_
          refine vops_efE (vef_store (p := .agg [.int .i64 p1.Span.Low, .int .i64 p1.Span.High]) (e' := .agg [.int .i64 p1.Span.Low, .int .i64 p1.Span.High]) rfl (getO_N rfl rfl) rfl rfl ts_24 rfl (nt_ne rfl) rfl (Nat.le_of_ble_eq_true rfl) rfl (setO_N rfl rfl)) rfl ?_
          refine vops_nil ?_
          refine vwp_ret ?_
          obtain rfl := Option.some.inj hF
          refine fnR ?_
          exact weak_pick rfl [(2, 0)] (by decide) ⟨rn_ptr 0 2 rfl rfl, trivial⟩ ⟨⟨_, rfl, rfl, .same _ _ _ _ (ltObj_es ⟨(lt_agg ⟨.int _ _, .int _ _, trivial⟩), trivial⟩)⟩, trivial⟩
        · have hF := bifF c15 hF
          refine vwp_skip ?_
          refine vwp_seq ?_
          refine vwp_region ?_
          obtain ⟨x16, h17, hF⟩ := bnd hF
          refine vops_rd (rd_fieldAddr rfl tf_35_6 ts_3 (by decide)) rfl ?_
          refine vops_rd (rd_load1 rfl (getO_N rfl rfl) rfl ta_3 rfl) rfl ?_
          refine vops_rd (rd_mvI rfl) rfl ?_
          refine vops_rd (rd_fieldAddr rfl tf_26_1 ts_3 (by decide)) rfl ?_
          refine vops_rd (rd_load1 rfl (getO_N rfl rfl) rfl ta_3 rfl) rfl ?_
          refine vops_rd (rd_sub rfl rfl rfl) rfl ?_
          refine vops_rd (rd_mul rfl rfl rfl) rfl ?_
          refine vops_efE (vef_callP rfl Try.call28 (F_ref05_Ceil_ok h17 _)) rfl ?_
          refine vops_rd (rd_asI rfl) rfl ?_
          refine vops_nil ?_
          refine vwp_seq ?_
          refine vwp_region ?_
          refine vops_rd (rd_fieldAddr rfl tf_26_2 ts_24 (by decide)) rfl ?_
          refine vops_rd (rd_fieldAddr rfl tf_24_0 ts_3 (by decide)) rfl ?_
          refine vops_rd (rd_load1 rfl (getO_N rfl rfl) rfl ta_3 rfl) rfl ?_
          refine vops_rd (rd_mvI rfl) rfl ?_
          refine vops_rd (rd_sub rfl rfl rfl) rfl ?_
          refine vops_rd (rd_fieldAddr rfl tf_26_2 ts_24 (by decide)) rfl ?_
          refine vops_rd (rd_fieldAddr rfl tf_24_1 ts_3 (by decide)) rfl ?_
          refine vops_rd (rd_load1 rfl (getO_N rfl rfl) rfl ta_3 rfl) rfl ?_
          refine vops_rd (rd_mvI rfl) rfl ?_
          refine vops_rd (rd_add rfl rfl rfl) rfl ?_
          refine vops_rd (rd_build (vs := [(0, .int .i64 (IntKind.i64.wrap (p1.Span.Low - x16))), (1, .int .i64 (IntKind.i64.wrap (p1.Span.High + x16)))]) (ds := [.int .i64 (IntKind.i64.wrap (p1.Span.Low - x16)), .int .i64 (IntKind.i64.wrap (p1.Span.High + x16))]) tz_24 rfl rfl tp_24 ⟨rfl, rfl, rfl, rfl, trivial⟩ (nt_all2 rfl) rfl) rfl ?_
          refine vops_efE (vef_allocN rfl rfl tz_24 rfl rfl (Nat.succ_pos _) rfl) rfl ?_
          refine vops_efE (vef_store (p := .agg [.int .i64 (IntKind.i64.wrap (p1.Span.Low - x16)), .int .i64 (IntKind.i64.wrap (p1.Span.High + x16))]) (e' := .agg [.int .i64 (IntKind.i64.wrap (p1.Span.Low - x16)), .int .i64 (IntKind.i64.wrap (p1.Span.High + x16))]) rfl (getO_N rfl rfl) rfl rfl ts_24 rfl (nt_ne rfl) rfl (Nat.le_of_ble_eq_true rfl) rfl (setO_N rfl rfl)) rfl ?_
          refine vops_nil ?_
          refine vwp_seq ?_
          refine vwp_seq ?_
          refine vwp_region ?_
          obtain ⟨x18, h19, hF⟩ := bnd hF
          refine vops_rd (rd_fieldAddr rfl tf_35_1 ts_3 (by decide)) rfl ?_
          refine vops_rd (rd_load1 rfl (getO_N rfl rfl) rfl ta_3 rfl) rfl ?_
          refine vops_efE (vef_callP rfl Try.call29 (F_ref05_Gassy_ok h19 _)) rfl ?_
          refine vops_nil ?_
          obtain ⟨o20, ho20, hF⟩ := bnd hF
          refine vwp_monoW (Q' := (fun o20 => OnlyE .normal (fun E' lw lc => Weak E' lw lc [(6, .ptr (low.length + 0) 0 0 0), (8, .ptr (low.length + 1) 0 0 0)] low [⟨24, 2, [.agg [.int .i64 0, .int .i64 0]], 0⟩, ⟨24, 2, [.agg [.int .i64 o20.Low, .int .i64 o20.High]], 0⟩])) o20) ?_ ?_
          · replace hF := ho20
            refine vwp_cond rfl (fun c21 => ?_) (fun c21 => ?_)
            · have hF := bifT c21 hF
              refine vwp_region ?_
              refine vops_rd (rd_fieldAddr rfl tf_24_0 ts_3 (by decide)) rfl ?_
              refine vops_rd (rd_load1 rfl (getO_N rfl rfl) rfl ta_3 rfl) rfl ?_
              refine vops_rd (rd_max rfl rfl) rfl ?_
              refine vops_rd (rd_fieldAddr rfl tf_24_1 ts_3 (by decide)) rfl ?_
              refine vops_rd (rd_load1 rfl (getO_N rfl rfl) rfl ta_3 rfl) rfl ?_
              refine vops_rd (rd_max rfl rfl) rfl ?_
              refine vops_rd (rd_fieldAddr rfl tf_24_0 ts_3 (by decide)) rfl ?_
              refine vops_efE (vef_store (p := .int .i64 (max (IntKind.i64.wrap (p1.Span.Low - x16)) 0)) (e' := .agg [.int .i64 (max (IntKind.i64.wrap (p1.Span.Low - x16)) 0), .int .i64 (IntKind.i64.wrap (p1.Span.High + x16))]) rfl (getO_N rfl rfl) rfl rfl ts_3 rfl (nt_ne rfl) rfl (Nat.le_of_ble_eq_true rfl) rfl (setO_N rfl rfl)) rfl ?_
              refine vops_rd (rd_fieldAddr rfl tf_24_1 ts_3 (by decide)) rfl ?_
              refine vops_efE (vef_store (p := .int .i64 (max (IntKind.i64.wrap (p1.Span.High + x16)) 0)) (e' := .agg [.int .i64 (max (IntKind.i64.wrap (p1.Span.Low - x16)) 0), .int .i64 (max (IntKind.i64.wrap (p1.Span.High + x16)) 0)]) rfl (getO_N rfl rfl) rfl rfl ts_3 rfl (nt_ne rfl) rfl (Nat.le_of_ble_eq_true rfl) rfl (setO_N rfl rfl)) rfl ?_
              refine vops_nil ?_
              obtain rfl := Option.some.inj hF
              refine onlyE ?_
              exact weak_pick rfl [(2, 0), (3, 0)] (by decide) ⟨rn_ptr 0 2 rfl rfl, rn_ptr 1 3 rfl rfl, trivial⟩ ⟨⟨_, rfl, rfl, .same _ _ _ _ (ltObj_es ⟨(lt_agg ⟨.int _ _, .int _ _, trivial⟩), trivial⟩)⟩, ⟨_, rfl, rfl, .same _ _ _ _ (ltObj_es ⟨(lt_agg ⟨.int _ _, .int _ _, trivial⟩), trivial⟩)⟩, trivial⟩
            · have hF := bifF c21 hF
              refine vwp_skip ?_
              obtain rfl := Option.some.inj hF
              refine onlyE ?_
              exact weak_pick rfl [(2, 0), (3, 0)] (by decide) ⟨rn_ptr 0 2 rfl rfl, rn_ptr 1 3 rfl rfl, trivial⟩ ⟨⟨_, rfl, rfl, .same _ _ _ _ (ltObj_es ⟨(lt_agg ⟨.int _ _, .int _ _, trivial⟩), trivial⟩)⟩, ⟨_, rfl, rfl, .same _ _ _ _ (ltObj_es ⟨(lt_agg ⟨.int _ _, .int _ _, trivial⟩), trivial⟩)⟩, trivial⟩
          · rintro _ _ _ _ ⟨rfl, hw⟩
            refine ⟨_, _, _, hw, ?_⟩
            refine vwp_seq ?_
            refine vwp_region ?_
            refine vops_rd (rd_loadN (ds := [.int .i64 o20.Low, .int .i64 o20.High]) rfl (getO_N rfl rfl) rfl ta_24 ts_24 rfl rfl rfl) rfl ?_
            refine vops_efE (vef_store (p := .agg [.int .i64 o20.Low, .int .i64 o20.High]) (e' := .agg [.int .i64 o20.Low, .int .i64 o20.High]) rfl (getO_N rfl rfl) rfl rfl ts_24 rfl (nt_ne rfl) rfl (Nat.le_of_ble_eq_true rfl) rfl (setO_N rfl rfl)) rfl ?_
            refine vops_nil ?_
            refine vwp_ret ?_
            obtain rfl := Option.some.inj hF
            refine fnR ?_
            exact weak_pick rfl [(0, 0)] (by decide) ⟨rn_ptr 0 0 rfl rfl, trivial⟩ ⟨⟨_, rfl, rfl, .same _ _ _ _ (ltObj_es ⟨(lt_agg ⟨.int _ _, .int _ _, trivial⟩), trivial⟩)⟩, trivial⟩
  · rintro _ _ _ _ ⟨he, hw⟩
    refine ⟨_, _, _, hw, ?_⟩
    exact bodyQ_pure he [.agg [.int .i64 r.Low, .int .i64 r.High]] ⟨rd_loadN rfl (getO_N rfl rfl) rfl ta_24 ts_24 rfl rfl rfl, trivial⟩ ((lt_agg ⟨.int _ _, .int _ _, trivial⟩)) ⟨rfl, rfl⟩

theorem F_law06_WindowUntil_ok {p0 : List Int} {p1 : Int} {r : Bool} (hF : F_law06_WindowUntil p0 p1 = some r) (low : List AObj) :
    VCalls Try.prog 4 [.vs 1 (List.map (PV.int .u8) p0), .int .i64 p1] low fun x low' => x = .bool r ∧ low' = low := by
  refine vcalls_of_body (nt := 50) (rs := [.tmp 4]) Try.func4 rfl rfl (Nat.le_of_ble_eq_true rfl) rfl ?_
  refine vwp_monoW (Q' := FnE (fun E' lw lc => Weak E' lw lc [(4, .bool r)] low [])) ?_ ?_
  · unfold F_law06_WindowUntil at hF
    refine vwp_seq ?_
    refine vwp_region ?_
    refine vops_rd (rd_asB rfl) rfl ?_
    refine vops_nil ?_
    refine vwp_seq ?_
    refine vwp_region ?_
    obtain ⟨x1, h2, hF⟩ := bnd hF
    refine vops_rd (rd_mvV rfl) rfl ?_
    refine vops_efE (vef_callN (r := .ptr (low.length + 0) 0 0 0) (os := [⟨51, 2, [.agg [.vs 1 (List.map (PV.int .u8) x1.l), .int .i64 x1.at_]], 0⟩]) rfl Try.call9 (F_draw_New_ok h2 _ (len_app rfl rfl))) rfl ?_
    refine vops_rd (rd_asP rfl) rfl ?_
    refine vops_nil ?_
    refine vwp_seq ?_
    refine vwp_region ?_
    obtain ⟨x3, h4, hF⟩ := bnd hF
    obtain ⟨x5, h6, hF⟩ := bnd hF
    obtain ⟨x7, h8, hF⟩ := bnd hF
    refine vops_rd (rd_mvP rfl) rfl ?_
    refine vops_rd (rd_mvP rfl) rfl ?_
    refine vops_efE (vef_callMN (k := 0) (loc1 := [⟨51, 2, [.agg [.vs 1 (List.map (PV.int .u8) x3.1.l), .int .i64 x3.1.at_]], 0⟩]) rfl rfl Try.call15 (F_draw_Codes_Range_ok h4 (get_N rfl rfl)) rfl) rfl ?_
    refine vops_efE (vef_callMN (k := 0) (loc1 := [⟨51, 2, [.agg [.vs 1 (List.map (PV.int .u8) x5.1.l), .int .i64 x5.1.at_]], 0⟩]) rfl rfl Try.call14 (F_draw_Codes_Sensor_ok h6 (get_N rfl rfl)) rfl) rfl ?_
    refine vops_rd (rd_mvP rfl) rfl ?_
    refine vops_efE (vef_callMN (k := 0) (loc1 := [⟨51, 2, [.agg [.vs 1 (List.map (PV.int .u8) x7.1.l), .int .i64 x7.1.at_]], 0⟩]) rfl rfl Try.call8 (F_law06_measured_ok h8 (get_N rfl rfl)) rfl) rfl ?_
    refine vops_efE (vef_allocN rfl rfl tz_35 rfl rfl (Nat.succ_pos _) rfl) rfl ?_
    refine vops_efE (vef_allocN rfl rfl tz_26 rfl rfl (Nat.succ_pos _) rfl) rfl ?_
    refine vops_efE (vef_store (p := .agg [.int .i64 x5.2.Address, .int .i64 x5.2.Kind, .int .i64 x5.2.Target, .int .i64 x5.2.Offset, .int .i64 x5.2.Scale, .int .i64 x5.2.Error, .int .i64 x5.2.Drift, .int .i64 x5.2.Life]) (e' := .agg [.int .i64 x5.2.Address, .int .i64 x5.2.Kind, .int .i64 x5.2.Target, .int .i64 x5.2.Offset, .int .i64 x5.2.Scale, .int .i64 x5.2.Error, .int .i64 x5.2.Drift, .int .i64 x5.2.Life]) rfl (getO_N rfl rfl) rfl rfl ts_35 rfl (nt_ne rfl) rfl (Nat.le_of_ble_eq_true rfl) rfl (setO_N rfl rfl)) rfl ?_
    refine vops_efE (vef_store (p := .agg [.int .i64 x7.2.Sensor, .int .i64 x7.2.Time, .int .i64 x7.2.Span.Low, .int .i64 x7.2.Span.High]) (e' := .agg [.int .i64 x7.2.Sensor, .int .i64 x7.2.Time, .int .i64 x7.2.Span.Low, .int .i64 x7.2.Span.High]) rfl (getO_N rfl rfl) rfl rfl ts_26 rfl (nt_ne rfl) rfl (Nat.le_of_ble_eq_true rfl) rfl (setO_N rfl rfl)) rfl ?_
    refine vops_nil ?_
    refine vwp_seq ?_
    refine vwp_region ?_
    obtain ⟨x9, h10, hF⟩ := bnd hF
    refine vops_rd (rd_mvI rfl) rfl ?_
    refine vops_efE (vef_callP rfl Try.call10 (F_draw_Mod_ok h10 _)) rfl ?_
    refine vops_rd (rd_sub rfl rfl rfl) rfl ?_
    refine vops_rd (rd_asI rfl) rfl ?_
    refine vops_nil ?_
    refine vwp_seq ?_
    refine vwp_region ?_
    refine vops_rd (rd_asI rfl) rfl ?_
    refine vops_nil ?_
    refine vwp_seq ?_
    refine vwp_seq ?_
    refine vwp_region ?_
    refine vops_rd (rd_fieldAddr rfl tf_26_1 ts_3 (by decide)) rfl ?_
    refine vops_rd (rd_load1 rfl (getO_N rfl rfl) rfl ta_3 rfl) rfl ?_
    refine vops_rd (rd_asI rfl) rfl ?_
    refine vops_nil ?_
    refine vwp_block ?_
    obtain ⟨o12, ho12, hF⟩ := bnd hF
    refine vwp_monoW (vwp_loopC (F_law06_WindowUntil_L1 x5 x7 x9) (fun s11 E' lw lc => Weak E' lw lc [(6, .ptr (low.length + 0) 0 0 0), (7, .ptr (low.length + 1) 0 0 0), (8, .int .i64 (IntKind.i64.wrap (x9 - 60))), (9, .int .i64 s11.1), (10, .int .i64 s11.2)] low [⟨35, 8, [.agg [.int .i64 x5.2.Address, .int .i64 x5.2.Kind, .int .i64 x5.2.Target, .int .i64 x5.2.Offset, .int .i64 x5.2.Scale, .int .i64 x5.2.Error, .int .i64 x5.2.Drift, .int .i64 x5.2.Life]], 0⟩, ⟨26, 4, [.agg [.int .i64 x7.2.Sensor, .int .i64 x7.2.Time, .int .i64 x7.2.Span.Low, .int .i64 x7.2.Span.High]], 0⟩]) (fun o12 => OnlyE (.exit 0) (fun E' lw lc => Weak E' lw lc [(6, .ptr (low.length + 0) 0 0 0), (7, .ptr (low.length + 1) 0 0 0), (8, .int .i64 (IntKind.i64.wrap (x9 - 60))), (9, .int .i64 o12)] low [⟨35, 8, [.agg [.int .i64 x5.2.Address, .int .i64 x5.2.Kind, .int .i64 x5.2.Target, .int .i64 x5.2.Offset, .int .i64 x5.2.Scale, .int .i64 x5.2.Error, .int .i64 x5.2.Drift, .int .i64 x5.2.Life]], 0⟩, ⟨26, 4, [.agg [.int .i64 x7.2.Sensor, .int .i64 x7.2.Time, .int .i64 x7.2.Span.Low, .int .i64 x7.2.Span.High]], 0⟩])) ho12 ?_ (by rintro _ _ _ _ ⟨h, _⟩ <;> cases h) ?_) ?_
    · exact weak_pick rfl [(1, 0), (2, 0)] (by decide) ⟨rn_ptr 0 1 rfl rfl, rn_ptr 1 2 rfl rfl, rn_low rfl (.int _ _), rn_low rfl (.int _ _), rn_low rfl (.int _ _), trivial⟩ ⟨⟨_, rfl, rfl, .same _ _ _ _ (ltObj_es ⟨(lt_agg ⟨.int _ _, .int _ _, .int _ _, .int _ _, .int _ _, .int _ _, .int _ _, .int _ _, trivial⟩), trivial⟩)⟩, ⟨_, rfl, rfl, .same _ _ _ _ (ltObj_es ⟨(lt_agg ⟨.int _ _, .int _ _, .int _ _, .int _ _, trivial⟩), trivial⟩)⟩, trivial⟩
    · rintro s11 os11 _ _ _ hF hw
      unfold F_law06_WindowUntil_L1 at hF
      refine vwp_weak hw ?_
      refine vwp_seq ?_
      refine vwp_seq ?_
      refine vwp_region ?_
      refine vops_rd (rd_mvI rfl) rfl ?_
      refine vops_rd (rd_fieldAddr rfl tf_26_1 ts_3 (by decide)) rfl ?_
      refine vops_rd (rd_load1 rfl (getO_N rfl rfl) rfl ta_3 rfl) rfl ?_
      refine vops_rd (rd_fieldAddr rfl tf_35_7 ts_3 (by decide)) rfl ?_
      refine vops_rd (rd_load1 rfl (getO_N rfl rfl) rfl ta_3 rfl) rfl ?_
      refine vops_rd (rd_add rfl rfl rfl) rfl ?_
      refine vops_rd (rd_leq rfl rfl) rfl ?_
      refine vops_nil ?_
      refine vwp_cond rfl (fun c13 => ?_) (fun c13 => ?_)
      · have hF := bifT c13 hF
        refine vwp_skip ?_
        refine vwp_seq ?_
        refine vwp_block ?_
        refine vwp_seq ?_
        refine vwp_seq ?_
        refine vwp_region ?_
        obtain ⟨x14, h15, hF⟩ := bnd hF
        obtain ⟨x16, h17, hF⟩ := bnd hF
        refine vops_rd (rd_loadN (ds := [.int .i64 x5.2.Address, .int .i64 x5.2.Kind, .int .i64 x5.2.Target, .int .i64 x5.2.Offset, .int .i64 x5.2.Scale, .int .i64 x5.2.Error, .int .i64 x5.2.Drift, .int .i64 x5.2.Life]) rfl (getO_N rfl rfl) rfl ta_35 ts_35 rfl rfl rfl) rfl ?_
        refine vops_rd (rd_loadN (ds := [.int .i64 x7.2.Sensor, .int .i64 x7.2.Time, .int .i64 x7.2.Span.Low, .int .i64 x7.2.Span.High]) rfl (getO_N rfl rfl) rfl ta_26 ts_26 rfl rfl rfl) rfl ?_
        refine vops_rd (rd_mvI rfl) rfl ?_
        refine vops_efE (vef_callP rfl Try.call16 (F_ref06_At_ok h15 _)) rfl ?_
        refine vops_rd (rd_mvI rfl) rfl ?_
        refine vops_efE (vef_callP rfl Try.call12 (F_ref06_Above_ok h17 _)) rfl ?_
        refine vops_rd (rd_neq rfl rfl) rfl ?_
        refine vops_nil ?_
        refine vwp_cond rfl (fun c18 => ?_) (fun c18 => ?_)
        · have hF := bifT c18 hF
          refine vwp_exit ?_
          obtain rfl := Option.some.inj hF
          refine onlyE ?_
          exact weak_sub ⟨rfl, rfl, rfl, rfl, trivial⟩
        · have hF := bifF c18 hF
          refine vwp_skip ?_
          refine vwp_region ?_
          refine vops_rd (rd_mvI rfl) rfl ?_
          refine vops_rd (rd_asI rfl) rfl ?_
          refine vops_nil ?_
          refine vwp_region ?_
          refine vops_rd (rd_mvI rfl) rfl ?_
          refine vops_rd (rd_add rfl rfl rfl) rfl ?_
          refine vops_rd (rd_asI rfl) rfl ?_
          refine vops_nil ?_
          obtain rfl := Option.some.inj hF
          refine onlyE ?_
          exact weak_sub ⟨rfl, rfl, rfl, rfl, rfl, trivial⟩
      · have hF := bifF c13 hF
        refine vwp_exit ?_
        obtain rfl := Option.some.inj hF
        refine onlyE ?_
        exact weak_sub ⟨rfl, rfl, rfl, rfl, trivial⟩
    · rintro _ _ _ _ ⟨rfl, hw⟩
      refine ⟨_, _, _, hw, ?_⟩
      refine vwp_seq ?_
      refine vwp_region ?_
      obtain ⟨x19, h20, hF⟩ := bnd hF
      rcases Bool.eq_false_or_eq_true (decide (x19 = o12)) with c21 | c21
      · have hF := bifT c21 hF
        obtain ⟨x22, h23, hF⟩ := bnd hF
        refine vops_rd (rd_loadN (ds := [.int .i64 x5.2.Address, .int .i64 x5.2.Kind, .int .i64 x5.2.Target, .int .i64 x5.2.Offset, .int .i64 x5.2.Scale, .int .i64 x5.2.Error, .int .i64 x5.2.Drift, .int .i64 x5.2.Life]) rfl (getO_N rfl rfl) rfl ta_35 ts_35 rfl rfl rfl) rfl ?_
        refine vops_rd (rd_loadN (ds := [.int .i64 x7.2.Sensor, .int .i64 x7.2.Time, .int .i64 x7.2.Span.Low, .int .i64 x7.2.Span.High]) rfl (getO_N rfl rfl) rfl ta_26 ts_26 rfl rfl rfl) rfl ?_
        refine vops_rd (rd_mvI rfl) rfl ?_
        refine vops_efE (vef_callP rfl Try.call17 (F_window_Until_ok h20 _)) rfl ?_
        refine vops_rd (rd_mvI rfl) rfl ?_
        refine vops_rd (rd_eql rfl rfl) rfl ?_
        refine vops_rd (rd_mvB rfl) rfl ?_
        refine vops_take rfl (congrArg PV.bool c21) ?_
        refine vops_efE (vef_callP rfl Try.call13 (F_law06_awake_ok h23 _)) rfl ?_
        refine vops_rd (rd_pickT (congrArg PV.bool c21) rfl) rfl ?_
        refine vops_rd (rd_asB rfl) rfl ?_
        refine vops_nil ?_
        refine vwp_ret ?_
        obtain rfl := Option.some.inj hF
        refine fnR ?_
        exact weak_pick rfl [] (by decide) ⟨rn_low rfl (.bool _), trivial⟩ trivial
      · have hF := bifF c21 hF
        refine vops_rd (rd_loadN (ds := [.int .i64 x5.2.Address, .int .i64 x5.2.Kind, .int .i64 x5.2.Target, .int .i64 x5.2.Offset, .int .i64 x5.2.Scale, .int .i64 x5.2.Error, .int .i64 x5.2.Drift, .int .i64 x5.2.Life]) rfl (getO_N rfl rfl) rfl ta_35 ts_35 rfl rfl rfl) rfl ?_
        refine vops_rd (rd_loadN (ds := [.int .i64 x7.2.Sensor, .int .i64 x7.2.Time, .int .i64 x7.2.Span.Low, .int .i64 x7.2.Span.High]) rfl (getO_N rfl rfl) rfl ta_26 ts_26 rfl rfl rfl) rfl ?_
        refine vops_rd (rd_mvI rfl) rfl ?_
        refine vops_efE (vef_callP rfl Try.call17 (F_window_Until_ok h20 _)) rfl ?_
        refine vops_rd (rd_mvI rfl) rfl ?_
        refine vops_rd (rd_eql rfl rfl) rfl ?_
        refine vops_rd (rd_mvB rfl) rfl ?_
        refine vops_skip rfl rfl (neF c21) rfl ?_
        refine vops_rd (rd_pickF (congrArg PV.bool c21) rfl) rfl ?_
        refine vops_rd (rd_asB rfl) rfl ?_
        refine vops_nil ?_
        refine vwp_ret ?_
        obtain rfl := Option.some.inj hF
        refine fnR ?_
        exact weak_pick rfl [] (by decide) ⟨rn_low rfl (.bool _), trivial⟩ trivial
  · rintro _ _ _ _ ⟨he, hw⟩
    refine ⟨_, _, _, hw, ?_⟩
    exact bodyQ_pure he [.bool r] ⟨rfl, trivial⟩ (.bool _) ⟨rfl, rfl⟩

end Go.Proofs.Ytnphpimajaadpaa
