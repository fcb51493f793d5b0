/- Printed by wip/lift/lift.py: the walks that show that the program computes them. -/
import Derived.Test.YtlbiodgefifhoaaL17W1
namespace Go.Proofs.Ytlbiodgefifhoaa
open Go Go.Aml Go.L
attribute [local irreducible] VRd VEf VOp VOps VWp DOps
set_option linter.unusedVariables false
set_option maxHeartbeats 4000000

theorem F_law17_LevelSteps_ok {p0 : List Int} {p1 : T_Level} {p2 : T_Watch} {p3 : T_Span} {p4 : Int} {r : Bool} (hF : F_law17_LevelSteps p0 p1 p2 p3 p4 = some r) (low : List AObj) :
    VCalls Try.prog 3 [.vs 1 (List.map (PV.int .u8) p0), .agg [.int .i64 p1.Cut, .int .i64 p1.Clear, .int .i64 p1.Delay], .agg [.bool p2.Over, .int .i64 p2.Since, .int .i64 p2.Last], .agg [.int .i64 p3.Low, .int .i64 p3.High], .int .i64 p4] low fun x low' => x = .bool r ∧ low' = low := by
  refine vcalls_of_body (nt := 131) (rs := [.tmp 10]) Try.func3 rfl rfl (Nat.le_of_ble_eq_true rfl) rfl ?_
  refine vwp_monoW (Q' := FnE (fun E' lw lc => Weak E' lw lc [(10, .bool r)] low [])) ?_ ?_
  · unfold F_law17_LevelSteps at hF
    refine vwp_seq ?_
    refine vwp_region ?_
    refine vops_efE (vef_boxN rfl rfl (v := .agg [.int .i64 p1.Cut, .int .i64 p1.Clear, .int .i64 p1.Delay]) rfl rfl (Nat.succ_pos _) rfl rfl) rfl ?_
    refine vops_efE (vef_boxN rfl rfl (v := .agg [.bool p2.Over, .int .i64 p2.Since, .int .i64 p2.Last]) rfl rfl (Nat.succ_pos _) rfl rfl) rfl ?_
    refine vops_efE (vef_boxN rfl rfl (v := .agg [.int .i64 p3.Low, .int .i64 p3.High]) rfl rfl (Nat.succ_pos _) rfl rfl) rfl ?_
    refine vops_rd (rd_asB rfl) rfl ?_
    refine vops_nil ?_
    refine vwp_seq ?_
    refine vwp_region ?_
    obtain ⟨x1, h2, hF⟩ := bnd hF
    refine vops_rd (rd_mvV rfl) rfl ?_
    refine vops_efE (vef_callN (r := .ptr (low.length + 3) 0 0 0) (os := [⟨53, 2, [.agg [.vs 1 (List.map (PV.int .u8) x1.l), .int .i64 x1.at_]], 0⟩]) rfl Try.call9 (F_draw_New_ok h2 _ (len_app rfl rfl))) rfl ?_
    refine vops_rd (rd_asP rfl) rfl ?_
    refine vops_nil ?_
    refine vwp_seq ?_
    refine vwp_region ?_
    obtain ⟨x3, h4, hF⟩ := bnd hF
    refine vops_rd (rd_mvP rfl) rfl ?_
    refine vops_efE (vef_callMN (k := 3) (loc1 := [⟨24, 3, [.agg [.int .i64 p1.Cut, .int .i64 p1.Clear, .int .i64 p1.Delay]], 0⟩, ⟨26, 3, [.agg [.bool p2.Over, .int .i64 p2.Since, .int .i64 p2.Last]], 0⟩, ⟨28, 2, [.agg [.int .i64 p3.Low, .int .i64 p3.High]], 0⟩, ⟨53, 2, [.agg [.vs 1 (List.map (PV.int .u8) x3.1.l), .int .i64 x3.1.at_]], 0⟩]) rfl rfl Try.call10 (F_draw_Codes_Level_ok h4 (get_N rfl rfl)) rfl) rfl ?_
    refine vops_efE (vef_allocN rfl rfl tz_24 rfl rfl (Nat.succ_pos _) rfl) rfl ?_
    refine vops_efE (vef_store (p := .agg [.int .i64 x3.2.Cut, .int .i64 x3.2.Clear, .int .i64 x3.2.Delay]) (e' := .agg [.int .i64 x3.2.Cut, .int .i64 x3.2.Clear, .int .i64 x3.2.Delay]) rfl (getO_N rfl rfl) rfl rfl ts_24 rfl (nt_ne rfl) rfl (Nat.le_of_ble_eq_true rfl) rfl (setO_N rfl rfl)) rfl ?_
    refine vops_nil ?_
    refine vwp_seq ?_
    refine vwp_region ?_
    obtain ⟨x5, h6, hF⟩ := bnd hF
    obtain ⟨x7, h8, hF⟩ := bnd hF
    obtain ⟨x9, h10, hF⟩ := bnd hF
    refine vops_rd (rd_mvP rfl) rfl ?_
    refine vops_efE (vef_callMN (k := 3) (loc1 := [⟨24, 3, [.agg [.int .i64 p1.Cut, .int .i64 p1.Clear, .int .i64 p1.Delay]], 0⟩, ⟨26, 3, [.agg [.bool p2.Over, .int .i64 p2.Since, .int .i64 p2.Last]], 0⟩, ⟨28, 2, [.agg [.int .i64 p3.Low, .int .i64 p3.High]], 0⟩, ⟨53, 2, [.agg [.vs 1 (List.map (PV.int .u8) x5.1.l), .int .i64 x5.1.at_]], 0⟩, ⟨24, 3, [.agg [.int .i64 x3.2.Cut, .int .i64 x3.2.Clear, .int .i64 x3.2.Delay]], 0⟩]) rfl rfl Try.call11 (F_draw_Codes_One_ok h6 (get_N rfl rfl)) rfl) rfl ?_
    refine vops_rd (rd_mvP rfl) rfl ?_
    refine vops_efE (vef_callMN (k := 3) (loc1 := [⟨24, 3, [.agg [.int .i64 p1.Cut, .int .i64 p1.Clear, .int .i64 p1.Delay]], 0⟩, ⟨26, 3, [.agg [.bool p2.Over, .int .i64 p2.Since, .int .i64 p2.Last]], 0⟩, ⟨28, 2, [.agg [.int .i64 p3.Low, .int .i64 p3.High]], 0⟩, ⟨53, 2, [.agg [.vs 1 (List.map (PV.int .u8) x7.1.l), .int .i64 x7.1.at_]], 0⟩, ⟨24, 3, [.agg [.int .i64 x3.2.Cut, .int .i64 x3.2.Clear, .int .i64 x3.2.Delay]], 0⟩]) rfl rfl Try.call12 (F_draw_Codes_Range_ok h8 (get_N rfl rfl)) rfl) rfl ?_
    refine vops_rd (rd_mvP rfl) rfl ?_
    refine vops_efE (vef_callMN (k := 3) (loc1 := [⟨24, 3, [.agg [.int .i64 p1.Cut, .int .i64 p1.Clear, .int .i64 p1.Delay]], 0⟩, ⟨26, 3, [.agg [.bool p2.Over, .int .i64 p2.Since, .int .i64 p2.Last]], 0⟩, ⟨28, 2, [.agg [.int .i64 p3.Low, .int .i64 p3.High]], 0⟩, ⟨53, 2, [.agg [.vs 1 (List.map (PV.int .u8) x9.1.l), .int .i64 x9.1.at_]], 0⟩, ⟨24, 3, [.agg [.int .i64 x3.2.Cut, .int .i64 x3.2.Clear, .int .i64 x3.2.Delay]], 0⟩]) rfl rfl Try.call12 (F_draw_Codes_Range_ok h10 (get_N rfl rfl)) rfl) rfl ?_
    refine vops_rd (rd_build (vs := [(0, .bool x5.2), (1, .int .i64 x7.2), (2, .int .i64 x9.2)]) (ds := [.bool x5.2, .int .i64 x7.2, .int .i64 x9.2]) tz_26 rfl rfl tp_26 ⟨rfl, rfl, rfl, rfl, rfl, rfl, trivial⟩ (nt_all2 rfl) rfl) rfl ?_
    refine vops_efE (vef_allocN rfl rfl tz_26 rfl rfl (Nat.succ_pos _) rfl) rfl ?_
    refine vops_efE (vef_store (p := .agg [.bool x5.2, .int .i64 x7.2, .int .i64 x9.2]) (e' := .agg [.bool x5.2, .int .i64 x7.2, .int .i64 x9.2]) rfl (getO_N rfl rfl) rfl rfl ts_26 rfl (nt_ne rfl) rfl (Nat.le_of_ble_eq_true rfl) rfl (setO_N rfl rfl)) rfl ?_
    refine vops_nil ?_
    refine vwp_seq ?_
    refine vwp_region ?_
    obtain ⟨x11, h12, hF⟩ := bnd hF
    refine vops_rd (rd_mvI rfl) rfl ?_
    refine vops_efE (vef_callP rfl Try.call13 (F_draw_Mod_ok h12 _)) rfl ?_
    refine vops_rd (rd_asI rfl) rfl ?_
    refine vops_nil ?_
    refine vwp_seq ?_
    refine vwp_seq ?_
    refine vwp_region ?_
    refine vops_rd (rd_loadN (ds := [.int .i64 x3.2.Cut, .int .i64 x3.2.Clear, .int .i64 x3.2.Delay]) rfl (getO_N rfl rfl) rfl ta_24 ts_24 rfl rfl rfl) rfl ?_
    refine vops_rd (rd_loadN (ds := [.int .i64 p1.Cut, .int .i64 p1.Clear, .int .i64 p1.Delay]) rfl (getO_N rfl rfl) rfl ta_24 ts_24 rfl rfl rfl) rfl ?_
    refine vops_efE (vef_litF (es := List.map T_Level.enc [x3.2, p1]) ⟨rfl, rfl, rfl, rfl, trivial⟩ rfl rfl (nt_all rfl) te_34 ts_24 tz_24 rfl rfl (Nat.succ_pos _) (by decide) (lt_map T_Level.enc_lt)) rfl ?_
    refine vops_rd (rd_to (rd_lenV rfl rfl te_34) (congrArg (fun n : Nat => PV.int .i64 (n : Int)) (List.length_map _))) rfl ?_
    refine vops_rd (rd_mvI rfl) rfl ?_
    refine vops_nil ?_
    refine vwp_block ?_
    obtain ⟨o14, ho14, hF⟩ := bnd hF
    refine vwp_monoW (vwp_loopC (F_law17_LevelSteps_L1 p1 p2 p3 p4 x3 x5 x7 x9 x11) (fun s13 E' lw lc => Weak E' lw lc [(4, .int .i64 p4), (7, .ptr (low.length + 0) 0 0 0), (8, .ptr (low.length + 1) 0 0 0), (12, .ptr (low.length + 2) 0 0 0), (13, .ptr (low.length + 3) 0 0 0), (14, .int .i64 x11), (43, .vs 3 (List.map T_Level.enc [x3.2, p1])), (44, .int .i64 (([x3.2, p1]).length : Int)), (45, .int .i64 s13)] low [⟨26, 3, [.agg [.bool p2.Over, .int .i64 p2.Since, .int .i64 p2.Last]], 0⟩, ⟨28, 2, [.agg [.int .i64 p3.Low, .int .i64 p3.High]], 0⟩, ⟨24, 3, [.agg [.int .i64 x3.2.Cut, .int .i64 x3.2.Clear, .int .i64 x3.2.Delay]], 0⟩, ⟨26, 3, [.agg [.bool x5.2, .int .i64 x7.2, .int .i64 x9.2]], 0⟩]) (Sum.elim (fun j15 => OnlyE .ret (fun E' lw lc => Weak E' lw lc [(10, .bool false)] low [])) (fun j16 => OnlyE (.exit 0) (fun E' lw lc => Weak E' lw lc [] low []))) ho14 ?_ (by rintro (_|_) _ _ _ ⟨h, _⟩ <;> cases h) ?_) ?_
    · exact weak_pick rfl [(1, 0), (2, 0), (4, 0), (5, 0)] (by decide) ⟨rn_low rfl (.int _ _), rn_ptr 0 1 rfl rfl, rn_ptr 1 2 rfl rfl, rn_ptr 2 4 rfl rfl, rn_ptr 3 5 rfl rfl, rn_low rfl (.int _ _), rn_low rfl (.vs _ _), rn_low rfl (.int _ _), rn_low rfl (.int _ _), trivial⟩ ⟨⟨_, rfl, rfl, .same _ _ _ _ (ltObj_es ⟨(lt_agg ⟨.bool _, .int _ _, .int _ _, trivial⟩), trivial⟩)⟩, ⟨_, rfl, rfl, .same _ _ _ _ (ltObj_es ⟨(lt_agg ⟨.int _ _, .int _ _, trivial⟩), trivial⟩)⟩, ⟨_, rfl, rfl, .same _ _ _ _ (ltObj_es ⟨(lt_agg ⟨.int _ _, .int _ _, .int _ _, trivial⟩), trivial⟩)⟩, ⟨_, rfl, rfl, .same _ _ _ _ (ltObj_es ⟨(lt_agg ⟨.bool _, .int _ _, .int _ _, trivial⟩), trivial⟩)⟩, trivial⟩
    · rintro s13 os13 _ _ _ hF hw
      unfold F_law17_LevelSteps_L1 at hF
      refine vwp_weak hw ?_
      refine vwp_seq ?_
      refine vwp_region ?_
      refine vops_rd (rd_lss rfl rfl) rfl ?_
      refine vops_nil ?_
      refine vwp_seq ?_
      refine vwp_cond rfl (fun c17 => ?_) (fun c17 => ?_)
      · have hF := bifT c17 hF
        refine vwp_skip ?_
        refine vwp_seq ?_
        refine vwp_block ?_
        refine vwp_seq ?_
        refine vwp_region ?_
        obtain ⟨x18, h19, hF⟩ := bnd hF
        refine vops_rd (rd_to (rd_ixV rfl rfl h19 te_34 ts_24) (v' := .vptr [.int .i64 x18.Cut, .int .i64 x18.Clear, .int .i64 x18.Delay] 0) rfl) rfl ?_
        refine vops_rd (rd_loadVN (ds := [.int .i64 x18.Cut, .int .i64 x18.Clear, .int .i64 x18.Delay]) rfl ta_24 ts_24 rfl rfl) rfl ?_
        refine vops_efE (vef_allocN rfl rfl tz_24 rfl rfl (Nat.succ_pos _) rfl) rfl ?_
        refine vops_efE (vef_store (p := .agg [.int .i64 x18.Cut, .int .i64 x18.Clear, .int .i64 x18.Delay]) (e' := .agg [.int .i64 x18.Cut, .int .i64 x18.Clear, .int .i64 x18.Delay]) rfl (getO_N rfl rfl) rfl rfl ts_24 rfl (nt_ne rfl) rfl (Nat.le_of_ble_eq_true rfl) rfl (setO_N rfl rfl)) rfl ?_
        refine vops_nil ?_
        refine vwp_seq ?_
        refine vwp_seq ?_
        obtain ⟨x20, h21, hF⟩ := bnd hF
        refine vwp_drawn [[], [], [], [0, 1, 2], [0, 1, 2, 3], []] [false, false, false, false, false, false] [(low, [⟨26, 3, [.agg [.bool p2.Over, .int .i64 p2.Since, .int .i64 p2.Last]], 0⟩, ⟨28, 2, [.agg [.int .i64 p3.Low, .int .i64 p3.High]], 0⟩, ⟨24, 3, [.agg [.int .i64 x3.2.Cut, .int .i64 x3.2.Clear, .int .i64 x3.2.Delay]], 0⟩, ⟨26, 3, [.agg [.bool x5.2, .int .i64 x7.2, .int .i64 x9.2]], 0⟩, ⟨24, 3, [.agg [.int .i64 x18.Cut, .int .i64 x18.Clear, .int .i64 x18.Delay]], 0⟩])] mixed (by kernel_rfl) rfl (lenAll (all1 rfl all0)) rfl (low, [⟨26, 3, [.agg [.bool p2.Over, .int .i64 p2.Since, .int .i64 p2.Last]], 0⟩, ⟨28, 2, [.agg [.int .i64 p3.Low, .int .i64 p3.High]], 0⟩, ⟨24, 3, [.agg [.int .i64 x3.2.Cut, .int .i64 x3.2.Clear, .int .i64 x3.2.Delay]], 0⟩, ⟨26, 3, [.agg [.bool x5.2, .int .i64 x7.2, .int .i64 x9.2]], 0⟩, ⟨24, 3, [.agg [.int .i64 x18.Cut, .int .i64 x18.Clear, .int .i64 x18.Delay]], 0⟩]) rfl rfl ?_
        refine dops_rdW [(low, [⟨26, 3, [.agg [.bool p2.Over, .int .i64 p2.Since, .int .i64 p2.Last]], 0⟩, ⟨28, 2, [.agg [.int .i64 p3.Low, .int .i64 p3.High]], 0⟩, ⟨24, 3, [.agg [.int .i64 x3.2.Cut, .int .i64 x3.2.Clear, .int .i64 x3.2.Delay]], 0⟩, ⟨26, 3, [.agg [.bool x5.2, .int .i64 x7.2, .int .i64 x9.2]], 0⟩, ⟨24, 3, [.agg [.int .i64 x18.Cut, .int .i64 x18.Clear, .int .i64 x18.Delay]], 0⟩])] rfl rfl (all1 (VRd.ntl (rd_loadN (ds := [.bool p2.Over, .int .i64 p2.Since, .int .i64 p2.Last]) rfl (getO_N rfl rfl) rfl ta_26 ts_26 rfl rfl rfl)) all0) ?_
        refine dops_rdW [(low, [⟨26, 3, [.agg [.bool p2.Over, .int .i64 p2.Since, .int .i64 p2.Last]], 0⟩, ⟨28, 2, [.agg [.int .i64 p3.Low, .int .i64 p3.High]], 0⟩, ⟨24, 3, [.agg [.int .i64 x3.2.Cut, .int .i64 x3.2.Clear, .int .i64 x3.2.Delay]], 0⟩, ⟨26, 3, [.agg [.bool x5.2, .int .i64 x7.2, .int .i64 x9.2]], 0⟩, ⟨24, 3, [.agg [.int .i64 x18.Cut, .int .i64 x18.Clear, .int .i64 x18.Delay]], 0⟩])] rfl rfl (all1 (VRd.ntl (rd_loadN (ds := [.bool x5.2, .int .i64 x7.2, .int .i64 x9.2]) rfl (getO_N rfl rfl) rfl ta_26 ts_26 rfl rfl rfl)) all0) ?_
        refine dops_rdW [(low, [⟨26, 3, [.agg [.bool p2.Over, .int .i64 p2.Since, .int .i64 p2.Last]], 0⟩, ⟨28, 2, [.agg [.int .i64 p3.Low, .int .i64 p3.High]], 0⟩, ⟨24, 3, [.agg [.int .i64 x3.2.Cut, .int .i64 x3.2.Clear, .int .i64 x3.2.Delay]], 0⟩, ⟨26, 3, [.agg [.bool x5.2, .int .i64 x7.2, .int .i64 x9.2]], 0⟩, ⟨24, 3, [.agg [.int .i64 x18.Cut, .int .i64 x18.Clear, .int .i64 x18.Delay]], 0⟩])] rfl rfl (all1 (nt_of (vef_callP rfl Try.call14 (F_level_Begin_ok h21 _))) all0) ?_
        refine dops_rdW [(low, [⟨26, 3, [.agg [.bool p2.Over, .int .i64 p2.Since, .int .i64 p2.Last]], 0⟩, ⟨28, 2, [.agg [.int .i64 p3.Low, .int .i64 p3.High]], 0⟩, ⟨24, 3, [.agg [.int .i64 x3.2.Cut, .int .i64 x3.2.Clear, .int .i64 x3.2.Delay]], 0⟩, ⟨26, 3, [.agg [.bool x5.2, .int .i64 x7.2, .int .i64 x9.2]], 0⟩, ⟨24, 3, [.agg [.int .i64 x18.Cut, .int .i64 x18.Clear, .int .i64 x18.Delay]], 0⟩])] rfl rfl (all1 (nt_of (vef_litF (es := List.map T_Watch.enc [p2, (T_Watch.mk x5.2 x7.2 x9.2), x20]) ⟨rfl, rfl, rfl, rfl, rfl, rfl, trivial⟩ rfl rfl (nt_all rfl) te_36 ts_26 tz_26 rfl rfl (Nat.succ_pos _) (by decide) (lt_map T_Watch.enc_lt))) all0) ?_
        refine dops_rdW [(low, [⟨26, 3, [.agg [.bool p2.Over, .int .i64 p2.Since, .int .i64 p2.Last]], 0⟩, ⟨28, 2, [.agg [.int .i64 p3.Low, .int .i64 p3.High]], 0⟩, ⟨24, 3, [.agg [.int .i64 x3.2.Cut, .int .i64 x3.2.Clear, .int .i64 x3.2.Delay]], 0⟩, ⟨26, 3, [.agg [.bool x5.2, .int .i64 x7.2, .int .i64 x9.2]], 0⟩, ⟨24, 3, [.agg [.int .i64 x18.Cut, .int .i64 x18.Clear, .int .i64 x18.Delay]], 0⟩])] rfl rfl (all1 (VRd.ntl (rd_to (rd_lenV rfl rfl te_36) (congrArg (fun n : Nat => PV.int .i64 (n : Int)) (List.length_map _)))) all0) ?_
        refine dops_rdW [(low, [⟨26, 3, [.agg [.bool p2.Over, .int .i64 p2.Since, .int .i64 p2.Last]], 0⟩, ⟨28, 2, [.agg [.int .i64 p3.Low, .int .i64 p3.High]], 0⟩, ⟨24, 3, [.agg [.int .i64 x3.2.Cut, .int .i64 x3.2.Clear, .int .i64 x3.2.Delay]], 0⟩, ⟨26, 3, [.agg [.bool x5.2, .int .i64 x7.2, .int .i64 x9.2]], 0⟩, ⟨24, 3, [.agg [.int .i64 x18.Cut, .int .i64 x18.Clear, .int .i64 x18.Delay]], 0⟩])] rfl rfl (all1 (VRd.ntl (rd_mvI rfl)) all0) ?_
        refine dops_nil ?_
        refine vwp_block ?_
        obtain ⟨o23, ho23, hF⟩ := bnd hF
        refine vwp_monoW (vwp_loopC (F_law17_LevelSteps_L2 p2 p3 p4 x3 x5 x7 x9 x11 x18 x20) (fun s22 E' lw lc => Weak E' lw lc [(4, .int .i64 p4), (7, .ptr (low.length + 0) 0 0 0), (8, .ptr (low.length + 1) 0 0 0), (12, .ptr (low.length + 2) 0 0 0), (13, .ptr (low.length + 3) 0 0 0), (14, .int .i64 x11), (16, .ptr (low.length + 4) 0 0 0), (43, .vs 3 (List.map T_Level.enc [x3.2, p1])), (44, .int .i64 (([x3.2, p1]).length : Int)), (45, .int .i64 s13), (52, .vs 3 (List.map T_Watch.enc [p2, (T_Watch.mk x5.2 x7.2 x9.2), x20])), (53, .int .i64 (([p2, (T_Watch.mk x5.2 x7.2 x9.2), x20]).length : Int)), (54, .int .i64 s22)] low [⟨26, 3, [.agg [.bool p2.Over, .int .i64 p2.Since, .int .i64 p2.Last]], 0⟩, ⟨28, 2, [.agg [.int .i64 p3.Low, .int .i64 p3.High]], 0⟩, ⟨24, 3, [.agg [.int .i64 x3.2.Cut, .int .i64 x3.2.Clear, .int .i64 x3.2.Delay]], 0⟩, ⟨26, 3, [.agg [.bool x5.2, .int .i64 x7.2, .int .i64 x9.2]], 0⟩, ⟨24, 3, [.agg [.int .i64 x18.Cut, .int .i64 x18.Clear, .int .i64 x18.Delay]], 0⟩]) (Sum.elim (fun j24 => OnlyE .ret (fun E' lw lc => Weak E' lw lc [(10, .bool false)] low [])) (fun j25 => OnlyE (.exit 2) (fun E' lw lc => Weak E' lw lc [(4, .int .i64 p4), (7, .ptr (low.length + 0) 0 0 0), (8, .ptr (low.length + 1) 0 0 0), (12, .ptr (low.length + 2) 0 0 0), (13, .ptr (low.length + 3) 0 0 0), (14, .int .i64 x11), (16, .ptr (low.length + 4) 0 0 0), (43, .vs 3 (List.map T_Level.enc [x3.2, p1])), (44, .int .i64 (([x3.2, p1]).length : Int)), (45, .int .i64 s13)] low [⟨26, 3, [.agg [.bool p2.Over, .int .i64 p2.Since, .int .i64 p2.Last]], 0⟩, ⟨28, 2, [.agg [.int .i64 p3.Low, .int .i64 p3.High]], 0⟩, ⟨24, 3, [.agg [.int .i64 x3.2.Cut, .int .i64 x3.2.Clear, .int .i64 x3.2.Delay]], 0⟩, ⟨26, 3, [.agg [.bool x5.2, .int .i64 x7.2, .int .i64 x9.2]], 0⟩, ⟨24, 3, [.agg [.int .i64 x18.Cut, .int .i64 x18.Clear, .int .i64 x18.Delay]], 0⟩]))) ho23 ?_ (by rintro (_|_) _ _ _ ⟨h, _⟩ <;> cases h) ?_) ?_
        · exact weak_sub ⟨rfl, rfl, rfl, rfl, rfl, rfl, rfl, rfl, rfl, rfl, rfl, rfl, rfl, trivial⟩
        · rintro s22 os22 _ _ _ hF hw
          unfold F_law17_LevelSteps_L2 at hF
          refine vwp_weak hw ?_
          refine vwp_seq ?_
          refine vwp_region ?_
          refine vops_rd (rd_lss rfl rfl) rfl ?_
          refine vops_nil ?_
          refine vwp_seq ?_
          refine vwp_cond rfl (fun c26 => ?_) (fun c26 => ?_)
          · have hF := bifT c26 hF
            refine vwp_skip ?_
            refine vwp_seq ?_
            refine vwp_block ?_
            refine vwp_seq ?_
            refine vwp_region ?_
            obtain ⟨x27, h28, hF⟩ := bnd hF
            refine vops_rd (rd_to (rd_ixV rfl rfl h28 te_36 ts_26) (v' := .vptr [.bool x27.Over, .int .i64 x27.Since, .int .i64 x27.Last] 0) rfl) rfl ?_
            refine vops_rd (rd_loadVN (ds := [.bool x27.Over, .int .i64 x27.Since, .int .i64 x27.Last]) rfl ta_26 ts_26 rfl rfl) rfl ?_
            refine vops_efE (vef_allocN rfl rfl tz_26 rfl rfl (Nat.succ_pos _) rfl) rfl ?_
            refine vops_efE (vef_store (p := .agg [.bool x27.Over, .int .i64 x27.Since, .int .i64 x27.Last]) (e' := .agg [.bool x27.Over, .int .i64 x27.Since, .int .i64 x27.Last]) rfl (getO_N rfl rfl) rfl rfl ts_26 rfl (nt_ne rfl) rfl (Nat.le_of_ble_eq_true rfl) rfl (setO_N rfl rfl)) rfl ?_
            refine vops_nil ?_
            refine vwp_seq ?_
            refine vwp_region ?_
            obtain ⟨x29, h30, hF⟩ := bnd hF
            refine vops_rd (rd_loadN (ds := [.int .i64 x18.Cut, .int .i64 x18.Clear, .int .i64 x18.Delay]) rfl (getO_N rfl rfl) rfl ta_24 ts_24 rfl rfl rfl) rfl ?_
            refine vops_rd (rd_loadN (ds := [.bool x27.Over, .int .i64 x27.Since, .int .i64 x27.Last]) rfl (getO_N rfl rfl) rfl ta_26 ts_26 rfl rfl rfl) rfl ?_
            refine vops_rd (rd_loadN (ds := [.int .i64 p3.Low, .int .i64 p3.High]) rfl (getO_N rfl rfl) rfl ta_28 ts_28 rfl rfl rfl) rfl ?_
            refine vops_rd (rd_mvI rfl) rfl ?_
            refine vops_efE (vef_callP rfl Try.call15 (F_level_Step_ok h30 _)) rfl ?_
            refine vops_rd (rd_mvT rfl) rfl ?_
            refine vops_rd (rd_extract rfl rfl) rfl ?_
            refine vops_rd (rd_extract rfl rfl) rfl ?_
            refine vops_efE (vef_allocN rfl rfl tz_26 rfl rfl (Nat.succ_pos _) rfl) rfl ?_
            refine vops_efE (vef_store (p := .agg [.bool x29.1.Over, .int .i64 x29.1.Since, .int .i64 x29.1.Last]) (e' := .agg [.bool x29.1.Over, .int .i64 x29.1.Since, .int .i64 x29.1.Last]) rfl (getO_N rfl rfl) rfl rfl ts_26 rfl (nt_ne rfl) rfl (Nat.le_of_ble_eq_true rfl) rfl (setO_N rfl rfl)) rfl ?_
            refine vops_rd (rd_asI rfl) rfl ?_
            refine vops_nil ?_
            refine vwp_seq ?_
            refine vwp_region ?_
            obtain ⟨x31, h32, hF⟩ := bnd hF
            refine vops_rd (rd_loadN (ds := [.int .i64 x18.Cut, .int .i64 x18.Clear, .int .i64 x18.Delay]) rfl (getO_N rfl rfl) rfl ta_24 ts_24 rfl rfl rfl) rfl ?_
            refine vops_rd (rd_loadN (ds := [.bool x27.Over, .int .i64 x27.Since, .int .i64 x27.Last]) rfl (getO_N rfl rfl) rfl ta_26 ts_26 rfl rfl rfl) rfl ?_
            refine vops_rd (rd_loadN (ds := [.int .i64 p3.Low, .int .i64 p3.High]) rfl (getO_N rfl rfl) rfl ta_28 ts_28 rfl rfl rfl) rfl ?_
            refine vops_rd (rd_mvI rfl) rfl ?_
            refine vops_efE (vef_callP rfl Try.call16 (F_ref17_Step_ok h32 _)) rfl ?_
            refine vops_rd (rd_mvT rfl) rfl ?_
            refine vops_rd (rd_extract rfl rfl) rfl ?_
            refine vops_rd (rd_extract rfl rfl) rfl ?_
            refine vops_efE (vef_allocN rfl rfl tz_26 rfl rfl (Nat.succ_pos _) rfl) rfl ?_
            refine vops_efE (vef_store (p := .agg [.bool x31.1.Over, .int .i64 x31.1.Since, .int .i64 x31.1.Last]) (e' := .agg [.bool x31.1.Over, .int .i64 x31.1.Since, .int .i64 x31.1.Last]) rfl (getO_N rfl rfl) rfl rfl ts_26 rfl (nt_ne rfl) rfl (Nat.le_of_ble_eq_true rfl) rfl (setO_N rfl rfl)) rfl ?_
            refine vops_rd (rd_asI rfl) rfl ?_
            refine vops_nil ?_
            refine vwp_seq ?_
            refine vwp_seq ?_
            refine vwp_region ?_
            refine vops_rd (rd_asI rfl) rfl ?_
            refine vops_nil ?_
            refine vwp_block ?_
            obtain ⟨o34, ho34, hF⟩ := bnd hF
            refine vwp_monoW (vwp_loopC (F_law17_LevelSteps_L3 x3 x11 x18 x27) (fun s33 E' lw lc => Weak E' lw lc [(4, .int .i64 p4), (7, .ptr (low.length + 0) 0 0 0), (8, .ptr (low.length + 1) 0 0 0), (12, .ptr (low.length + 2) 0 0 0), (13, .ptr (low.length + 3) 0 0 0), (14, .int .i64 x11), (16, .ptr (low.length + 4) 0 0 0), (18, .ptr (low.length + 5) 0 0 0), (19, .ptr (low.length + 6) 0 0 0), (20, .int .i64 x29.2), (21, .ptr (low.length + 7) 0 0 0), (22, .int .i64 x31.2), (23, .int .i64 s33), (43, .vs 3 (List.map T_Level.enc [x3.2, p1])), (44, .int .i64 (([x3.2, p1]).length : Int)), (45, .int .i64 s13), (52, .vs 3 (List.map T_Watch.enc [p2, (T_Watch.mk x5.2 x7.2 x9.2), x20])), (53, .int .i64 (([p2, (T_Watch.mk x5.2 x7.2 x9.2), x20]).length : Int)), (54, .int .i64 s22)] low [⟨26, 3, [.agg [.bool p2.Over, .int .i64 p2.Since, .int .i64 p2.Last]], 0⟩, ⟨28, 2, [.agg [.int .i64 p3.Low, .int .i64 p3.High]], 0⟩, ⟨24, 3, [.agg [.int .i64 x3.2.Cut, .int .i64 x3.2.Clear, .int .i64 x3.2.Delay]], 0⟩, ⟨26, 3, [.agg [.bool x5.2, .int .i64 x7.2, .int .i64 x9.2]], 0⟩, ⟨24, 3, [.agg [.int .i64 x18.Cut, .int .i64 x18.Clear, .int .i64 x18.Delay]], 0⟩, ⟨26, 3, [.agg [.bool x27.Over, .int .i64 x27.Since, .int .i64 x27.Last]], 0⟩, ⟨26, 3, [.agg [.bool x29.1.Over, .int .i64 x29.1.Since, .int .i64 x29.1.Last]], 0⟩, ⟨26, 3, [.agg [.bool x31.1.Over, .int .i64 x31.1.Since, .int .i64 x31.1.Last]], 0⟩]) (Sum.elim (fun j35 => OnlyE .ret (fun E' lw lc => Weak E' lw lc [(10, .bool false)] low [])) (fun j36 => OnlyE (.exit 4) (fun E' lw lc => Weak E' lw lc [(4, .int .i64 p4), (7, .ptr (low.length + 0) 0 0 0), (8, .ptr (low.length + 1) 0 0 0), (12, .ptr (low.length + 2) 0 0 0), (13, .ptr (low.length + 3) 0 0 0), (14, .int .i64 x11), (16, .ptr (low.length + 4) 0 0 0), (19, .ptr (low.length + 5) 0 0 0), (20, .int .i64 x29.2), (21, .ptr (low.length + 6) 0 0 0), (22, .int .i64 x31.2), (43, .vs 3 (List.map T_Level.enc [x3.2, p1])), (44, .int .i64 (([x3.2, p1]).length : Int)), (45, .int .i64 s13), (52, .vs 3 (List.map T_Watch.enc [p2, (T_Watch.mk x5.2 x7.2 x9.2), x20])), (53, .int .i64 (([p2, (T_Watch.mk x5.2 x7.2 x9.2), x20]).length : Int)), (54, .int .i64 s22)] low [⟨26, 3, [.agg [.bool p2.Over, .int .i64 p2.Since, .int .i64 p2.Last]], 0⟩, ⟨28, 2, [.agg [.int .i64 p3.Low, .int .i64 p3.High]], 0⟩, ⟨24, 3, [.agg [.int .i64 x3.2.Cut, .int .i64 x3.2.Clear, .int .i64 x3.2.Delay]], 0⟩, ⟨26, 3, [.agg [.bool x5.2, .int .i64 x7.2, .int .i64 x9.2]], 0⟩, ⟨24, 3, [.agg [.int .i64 x18.Cut, .int .i64 x18.Clear, .int .i64 x18.Delay]], 0⟩, ⟨26, 3, [.agg [.bool x29.1.Over, .int .i64 x29.1.Since, .int .i64 x29.1.Last]], 0⟩, ⟨26, 3, [.agg [.bool x31.1.Over, .int .i64 x31.1.Since, .int .i64 x31.1.Last]], 0⟩]))) ho34 ?_ (by rintro (_|_) _ _ _ ⟨h, _⟩ <;> cases h) ?_) ?_
            · exact weak_sub ⟨rfl, rfl, rfl, rfl, rfl, rfl, rfl, rfl, rfl, rfl, rfl, rfl, rfl, rfl, rfl, rfl, rfl, rfl, rfl, trivial⟩
            · rintro s33 os33 _ _ _ hF hw
              unfold F_law17_LevelSteps_L3 at hF
              refine vwp_weak hw ?_
              refine vwp_seq ?_
              refine vwp_seq ?_
              refine vwp_region ?_
              refine vops_rd (rd_mvI rfl) rfl ?_
              refine vops_rd (rd_lss rfl rfl) rfl ?_
              refine vops_nil ?_
              refine vwp_cond rfl (fun c37 => ?_) (fun c37 => ?_)
              · have hF := bifT c37 hF
                refine vwp_skip ?_
                refine vwp_seq ?_
                refine vwp_block ?_
                refine vwp_seq ?_
                refine vwp_region ?_
                obtain ⟨x38, h39, hF⟩ := bnd hF
                refine vops_rd (rd_loadN (ds := [.int .i64 x18.Cut, .int .i64 x18.Clear, .int .i64 x18.Delay]) rfl (getO_N rfl rfl) rfl ta_24 ts_24 rfl rfl rfl) rfl ?_
                refine vops_rd (rd_loadN (ds := [.bool x27.Over, .int .i64 x27.Since, .int .i64 x27.Last]) rfl (getO_N rfl rfl) rfl ta_26 ts_26 rfl rfl rfl) rfl ?_
                refine vops_rd (rd_fieldAddr rfl tf_24_1 ts_3 (by decide)) rfl ?_
                refine vops_rd (rd_load1 rfl (getO_N rfl rfl) rfl ta_3 rfl) rfl ?_
                refine vops_rd (rd_mvI rfl) rfl ?_
                refine vops_rd (rd_add rfl rfl rfl) rfl ?_
                refine vops_rd (rd_build (vs := [(0, .int .i64 (-1)), (1, .int .i64 (IntKind.i64.wrap (x3.2.Clear + s33)))]) (ds := [.int .i64 (-1), .int .i64 (IntKind.i64.wrap (x3.2.Clear + s33))]) tz_28 rfl rfl tp_28 ⟨rfl, rfl, rfl, rfl, trivial⟩ (nt_all2 rfl) rfl) rfl ?_
                refine vops_rd (rd_mvI rfl) rfl ?_
                refine vops_efE (vef_callP rfl Try.call15 (F_level_Step_ok h39 _)) rfl ?_
                refine vops_rd (rd_mvT rfl) rfl ?_
                refine vops_rd (rd_extract rfl rfl) rfl ?_
                refine vops_rd (rd_extract rfl rfl) rfl ?_
                refine vops_efE (vef_allocN rfl rfl tz_26 rfl rfl (Nat.succ_pos _) rfl) rfl ?_
                refine vops_efE (vef_store (p := .agg [.bool x38.1.Over, .int .i64 x38.1.Since, .int .i64 x38.1.Last]) (e' := .agg [.bool x38.1.Over, .int .i64 x38.1.Since, .int .i64 x38.1.Last]) rfl (getO_N rfl rfl) rfl rfl ts_26 rfl (nt_ne rfl) rfl (Nat.le_of_ble_eq_true rfl) rfl (setO_N rfl rfl)) rfl ?_
                refine vops_rd (rd_asI rfl) rfl ?_
                refine vops_nil ?_
                refine vwp_seq ?_
                refine vwp_region ?_
                obtain ⟨x40, h41, hF⟩ := bnd hF
                refine vops_rd (rd_loadN (ds := [.int .i64 x18.Cut, .int .i64 x18.Clear, .int .i64 x18.Delay]) rfl (getO_N rfl rfl) rfl ta_24 ts_24 rfl rfl rfl) rfl ?_
                refine vops_rd (rd_loadN (ds := [.bool x27.Over, .int .i64 x27.Since, .int .i64 x27.Last]) rfl (getO_N rfl rfl) rfl ta_26 ts_26 rfl rfl rfl) rfl ?_
                refine vops_rd (rd_fieldAddr rfl tf_24_1 ts_3 (by decide)) rfl ?_
                refine vops_rd (rd_load1 rfl (getO_N rfl rfl) rfl ta_3 rfl) rfl ?_
                refine vops_rd (rd_mvI rfl) rfl ?_
                refine vops_rd (rd_add rfl rfl rfl) rfl ?_
                refine vops_rd (rd_build (vs := [(0, .int .i64 (-1)), (1, .int .i64 (IntKind.i64.wrap (x3.2.Clear + s33)))]) (ds := [.int .i64 (-1), .int .i64 (IntKind.i64.wrap (x3.2.Clear + s33))]) tz_28 rfl rfl tp_28 ⟨rfl, rfl, rfl, rfl, trivial⟩ (nt_all2 rfl) rfl) rfl ?_
                refine vops_rd (rd_mvI rfl) rfl ?_
                refine vops_efE (vef_callP rfl Try.call16 (F_ref17_Step_ok h41 _)) rfl ?_
                refine vops_rd (rd_mvT rfl) rfl ?_
                refine vops_rd (rd_extract rfl rfl) rfl ?_
                refine vops_rd (rd_extract rfl rfl) rfl ?_
                refine vops_efE (vef_allocN rfl rfl tz_26 rfl rfl (Nat.succ_pos _) rfl) rfl ?_
                refine vops_efE (vef_store (p := .agg [.bool x40.1.Over, .int .i64 x40.1.Since, .int .i64 x40.1.Last]) (e' := .agg [.bool x40.1.Over, .int .i64 x40.1.Since, .int .i64 x40.1.Last]) rfl (getO_N rfl rfl) rfl rfl ts_26 rfl (nt_ne rfl) rfl (Nat.le_of_ble_eq_true rfl) rfl (setO_N rfl rfl)) rfl ?_
                refine vops_rd (rd_asI rfl) rfl ?_
                refine vops_nil ?_
                refine vwp_seq ?_
                obtain ⟨o42, ho42, hF⟩ := bnd hF
                refine vwp_monoW (Q' := (fun o42 => OnlyE .normal (fun E' lw lc => Weak E' lw lc [(4, .int .i64 p4), (7, .ptr (low.length + 0) 0 0 0), (8, .ptr (low.length + 1) 0 0 0), (12, .ptr (low.length + 2) 0 0 0), (13, .ptr (low.length + 3) 0 0 0), (14, .int .i64 x11), (16, .ptr (low.length + 4) 0 0 0), (18, .ptr (low.length + 5) 0 0 0), (19, .ptr (low.length + 6) 0 0 0), (20, .int .i64 x29.2), (21, .ptr (low.length + 7) 0 0 0), (22, .int .i64 x31.2), (23, .int .i64 s33), (43, .vs 3 (List.map T_Level.enc [x3.2, p1])), (44, .int .i64 (([x3.2, p1]).length : Int)), (45, .int .i64 s13), (52, .vs 3 (List.map T_Watch.enc [p2, (T_Watch.mk x5.2 x7.2 x9.2), x20])), (53, .int .i64 (([p2, (T_Watch.mk x5.2 x7.2 x9.2), x20]).length : Int)), (54, .int .i64 s22), (109, .bool o42)] low [⟨26, 3, [.agg [.bool p2.Over, .int .i64 p2.Since, .int .i64 p2.Last]], 0⟩, ⟨28, 2, [.agg [.int .i64 p3.Low, .int .i64 p3.High]], 0⟩, ⟨24, 3, [.agg [.int .i64 x3.2.Cut, .int .i64 x3.2.Clear, .int .i64 x3.2.Delay]], 0⟩, ⟨26, 3, [.agg [.bool x5.2, .int .i64 x7.2, .int .i64 x9.2]], 0⟩, ⟨24, 3, [.agg [.int .i64 x18.Cut, .int .i64 x18.Clear, .int .i64 x18.Delay]], 0⟩, ⟨26, 3, [.agg [.bool x27.Over, .int .i64 x27.Since, .int .i64 x27.Last]], 0⟩, ⟨26, 3, [.agg [.bool x29.1.Over, .int .i64 x29.1.Since, .int .i64 x29.1.Last]], 0⟩, ⟨26, 3, [.agg [.bool x31.1.Over, .int .i64 x31.1.Since, .int .i64 x31.1.Last]], 0⟩])) o42) ?_ ?_
                · replace hF := ho42
                  refine vwp_region ?_
                  rcases Bool.eq_false_or_eq_true (!((x38.1.Over == x40.1.Over) && ((x38.1.Since == x40.1.Since) && ((x38.1.Last == x40.1.Last) && true)))) with c43 | c43
                  · have hF := bifT c43 hF
                    refine vops_rd (rd_loadN (ds := [.bool x38.1.Over, .int .i64 x38.1.Since, .int .i64 x38.1.Last]) rfl (getO_N rfl rfl) rfl ta_26 ts_26 rfl rfl rfl) rfl ?_
                    refine vops_rd (rd_loadN (ds := [.bool x40.1.Over, .int .i64 x40.1.Since, .int .i64 x40.1.Last]) rfl (getO_N rfl rfl) rfl ta_26 ts_26 rfl rfl rfl) rfl ?_
                    refine vops_rd (rd_neqV (tab := eqTab) eqTab_ok rfl rfl eqg_26 rfl) rfl ?_
                    refine vops_rd (rd_mvB rfl) rfl ?_
                    refine vops_skip rfl rfl (neT c43) rfl ?_
                    refine vops_skip rfl rfl (neT c43) rfl ?_
                    refine vops_skip rfl rfl (neT c43) rfl ?_
                    refine vops_rd (rd_pickT (congrArg PV.bool c43) rfl) rfl ?_
                    refine vops_nil ?_
                    obtain rfl := Option.some.inj hF
                    refine onlyE ?_
                    exact weak_pick rfl [(0, 0), (1, 0), (2, 0), (3, 0), (4, 0), (5, 0), (6, 0), (7, 0)] (by decide) ⟨rn_low rfl (.int _ _), rn_ptr 0 0 rfl rfl, rn_ptr 1 1 rfl rfl, rn_ptr 2 2 rfl rfl, rn_ptr 3 3 rfl rfl, rn_low rfl (.int _ _), rn_ptr 4 4 rfl rfl, rn_ptr 5 5 rfl rfl, rn_ptr 6 6 rfl rfl, rn_low rfl (.int _ _), rn_ptr 7 7 rfl rfl, rn_low rfl (.int _ _), rn_low rfl (.int _ _), rn_low rfl (.vs _ _), rn_low rfl (.int _ _), rn_low rfl (.int _ _), rn_low rfl (.vs _ _), rn_low rfl (.int _ _), rn_low rfl (.int _ _), rn_low rfl (.bool _), trivial⟩ ⟨⟨_, rfl, rfl, .same _ _ _ _ (ltObj_es ⟨(lt_agg ⟨.bool _, .int _ _, .int _ _, trivial⟩), trivial⟩)⟩, ⟨_, rfl, rfl, .same _ _ _ _ (ltObj_es ⟨(lt_agg ⟨.int _ _, .int _ _, trivial⟩), trivial⟩)⟩, ⟨_, rfl, rfl, .same _ _ _ _ (ltObj_es ⟨(lt_agg ⟨.int _ _, .int _ _, .int _ _, trivial⟩), trivial⟩)⟩, ⟨_, rfl, rfl, .same _ _ _ _ (ltObj_es ⟨(lt_agg ⟨.bool _, .int _ _, .int _ _, trivial⟩), trivial⟩)⟩, ⟨_, rfl, rfl, .same _ _ _ _ (ltObj_es ⟨(lt_agg ⟨.int _ _, .int _ _, .int _ _, trivial⟩), trivial⟩)⟩, ⟨_, rfl, rfl, .same _ _ _ _ (ltObj_es ⟨(lt_agg ⟨.bool _, .int _ _, .int _ _, trivial⟩), trivial⟩)⟩, ⟨_, rfl, rfl, .same _ _ _ _ (ltObj_es ⟨(lt_agg ⟨.bool _, .int _ _, .int _ _, trivial⟩), trivial⟩)⟩, ⟨_, rfl, rfl, .same _ _ _ _ (ltObj_es ⟨(lt_agg ⟨.bool _, .int _ _, .int _ _, trivial⟩), trivial⟩)⟩, trivial⟩
                  · have hF := bifF c43 hF
                    refine vops_rd (rd_loadN (ds := [.bool x38.1.Over, .int .i64 x38.1.Since, .int .i64 x38.1.Last]) rfl (getO_N rfl rfl) rfl ta_26 ts_26 rfl rfl rfl) rfl ?_
                    refine vops_rd (rd_loadN (ds := [.bool x40.1.Over, .int .i64 x40.1.Since, .int .i64 x40.1.Last]) rfl (getO_N rfl rfl) rfl ta_26 ts_26 rfl rfl rfl) rfl ?_
                    refine vops_rd (rd_neqV (tab := eqTab) eqTab_ok rfl rfl eqg_26 rfl) rfl ?_
                    refine vops_rd (rd_mvB rfl) rfl ?_
                    refine vops_take rfl (congrArg PV.bool c43) ?_
                    refine vops_rd (rd_mvI rfl) rfl ?_
                    refine vops_take rfl (congrArg PV.bool c43) ?_
                    refine vops_rd (rd_mvI rfl) rfl ?_
                    refine vops_take rfl (congrArg PV.bool c43) ?_
                    refine vops_rd (rd_neq rfl rfl) rfl ?_
                    refine vops_rd (rd_pickF (congrArg PV.bool c43) rfl) rfl ?_
                    refine vops_nil ?_
                    obtain rfl := Option.some.inj hF
                    refine onlyE ?_
                    exact weak_pick rfl [(0, 0), (1, 0), (2, 0), (3, 0), (4, 0), (5, 0), (6, 0), (7, 0)] (by decide) ⟨rn_low rfl (.int _ _), rn_ptr 0 0 rfl rfl, rn_ptr 1 1 rfl rfl, rn_ptr 2 2 rfl rfl, rn_ptr 3 3 rfl rfl, rn_low rfl (.int _ _), rn_ptr 4 4 rfl rfl, rn_ptr 5 5 rfl rfl, rn_ptr 6 6 rfl rfl, rn_low rfl (.int _ _), rn_ptr 7 7 rfl rfl, rn_low rfl (.int _ _), rn_low rfl (.int _ _), rn_low rfl (.vs _ _), rn_low rfl (.int _ _), rn_low rfl (.int _ _), rn_low rfl (.vs _ _), rn_low rfl (.int _ _), rn_low rfl (.int _ _), rn_low rfl (.bool _), trivial⟩ ⟨⟨_, rfl, rfl, .same _ _ _ _ (ltObj_es ⟨(lt_agg ⟨.bool _, .int _ _, .int _ _, trivial⟩), trivial⟩)⟩, ⟨_, rfl, rfl, .same _ _ _ _ (ltObj_es ⟨(lt_agg ⟨.int _ _, .int _ _, trivial⟩), trivial⟩)⟩, ⟨_, rfl, rfl, .same _ _ _ _ (ltObj_es ⟨(lt_agg ⟨.int _ _, .int _ _, .int _ _, trivial⟩), trivial⟩)⟩, ⟨_, rfl, rfl, .same _ _ _ _ (ltObj_es ⟨(lt_agg ⟨.bool _, .int _ _, .int _ _, trivial⟩), trivial⟩)⟩, ⟨_, rfl, rfl, .same _ _ _ _ (ltObj_es ⟨(lt_agg ⟨.int _ _, .int _ _, .int _ _, trivial⟩), trivial⟩)⟩, ⟨_, rfl, rfl, .same _ _ _ _ (ltObj_es ⟨(lt_agg ⟨.bool _, .int _ _, .int _ _, trivial⟩), trivial⟩)⟩, ⟨_, rfl, rfl, .same _ _ _ _ (ltObj_es ⟨(lt_agg ⟨.bool _, .int _ _, .int _ _, trivial⟩), trivial⟩)⟩, ⟨_, rfl, rfl, .same _ _ _ _ (ltObj_es ⟨(lt_agg ⟨.bool _, .int _ _, .int _ _, trivial⟩), trivial⟩)⟩, trivial⟩
                · rintro _ _ _ _ ⟨rfl, hw⟩
                  refine ⟨_, _, _, hw, ?_⟩
                  refine vwp_cond rfl (fun c44 => ?_) (fun c44 => ?_)
                  · have hF := bifT c44 hF
                    refine vwp_seq ?_
                    refine vwp_region ?_
                    refine vops_rd (rd_asB rfl) rfl ?_
                    refine vops_nil ?_
                    refine vwp_ret ?_
                    obtain rfl := Option.some.inj hF
                    refine onlyE ?_
                    exact weak_pick rfl [] (by decide) ⟨rn_low rfl (.bool _), trivial⟩ trivial
                  · have hF := bifF c44 hF
                    refine vwp_skip ?_
                    refine vwp_region ?_
                    refine vops_rd (rd_mvI rfl) rfl ?_
                    refine vops_rd (rd_add rfl rfl rfl) rfl ?_
                    refine vops_rd (rd_asI rfl) rfl ?_
                    refine vops_nil ?_
                    obtain rfl := Option.some.inj hF
                    refine onlyE ?_
                    exact weak_sub ⟨rfl, rfl, rfl, rfl, rfl, rfl, rfl, rfl, rfl, rfl, rfl, rfl, rfl, rfl, rfl, rfl, rfl, rfl, rfl, trivial⟩
              · have hF := bifF c37 hF
                refine vwp_exit ?_
                obtain rfl := Option.some.inj hF
                refine onlyE ?_
                exact weak_pick rfl [(0, 0), (1, 0), (2, 0), (3, 0), (4, 0), (6, 0), (7, 0)] (by decide) ⟨rn_low rfl (.int _ _), rn_ptr 0 0 rfl rfl, rn_ptr 1 1 rfl rfl, rn_ptr 2 2 rfl rfl, rn_ptr 3 3 rfl rfl, rn_low rfl (.int _ _), rn_ptr 4 4 rfl rfl, rn_ptr 5 6 rfl rfl, rn_low rfl (.int _ _), rn_ptr 6 7 rfl rfl, rn_low rfl (.int _ _), rn_low rfl (.vs _ _), rn_low rfl (.int _ _), rn_low rfl (.int _ _), rn_low rfl (.vs _ _), rn_low rfl (.int _ _), rn_low rfl (.int _ _), trivial⟩ ⟨⟨_, rfl, rfl, .same _ _ _ _ (ltObj_es ⟨(lt_agg ⟨.bool _, .int _ _, .int _ _, trivial⟩), trivial⟩)⟩, ⟨_, rfl, rfl, .same _ _ _ _ (ltObj_es ⟨(lt_agg ⟨.int _ _, .int _ _, trivial⟩), trivial⟩)⟩, ⟨_, rfl, rfl, .same _ _ _ _ (ltObj_es ⟨(lt_agg ⟨.int _ _, .int _ _, .int _ _, trivial⟩), trivial⟩)⟩, ⟨_, rfl, rfl, .same _ _ _ _ (ltObj_es ⟨(lt_agg ⟨.bool _, .int _ _, .int _ _, trivial⟩), trivial⟩)⟩, ⟨_, rfl, rfl, .same _ _ _ _ (ltObj_es ⟨(lt_agg ⟨.int _ _, .int _ _, .int _ _, trivial⟩), trivial⟩)⟩, ⟨_, rfl, rfl, .same _ _ _ _ (ltObj_es ⟨(lt_agg ⟨.bool _, .int _ _, .int _ _, trivial⟩), trivial⟩)⟩, ⟨_, rfl, rfl, .same _ _ _ _ (ltObj_es ⟨(lt_agg ⟨.bool _, .int _ _, .int _ _, trivial⟩), trivial⟩)⟩, trivial⟩
            · rcases o34 with j35 | j36
              · replace hF := elimL hF
                rintro _ _ _ _ ⟨rfl, hw⟩
                refine ⟨_, _, _, hw, ?_⟩
                obtain rfl := Option.some.inj hF
                refine onlyE ?_
                exact weak_sub ⟨rfl, trivial⟩
              · replace hF := elimR hF
                rintro _ _ _ _ ⟨rfl, hw⟩
                refine ⟨_, _, _, hw, ?_⟩
                refine vwp_seq ?_
                obtain ⟨o45, ho45, hF⟩ := bnd hF
                refine vwp_monoW (Q' := (fun o45 => OnlyE .normal (fun E' lw lc => Weak E' lw lc [(4, .int .i64 p4), (7, .ptr (low.length + 0) 0 0 0), (8, .ptr (low.length + 1) 0 0 0), (12, .ptr (low.length + 2) 0 0 0), (13, .ptr (low.length + 3) 0 0 0), (14, .int .i64 x11), (16, .ptr (low.length + 4) 0 0 0), (43, .vs 3 (List.map T_Level.enc [x3.2, p1])), (44, .int .i64 (([x3.2, p1]).length : Int)), (45, .int .i64 s13), (52, .vs 3 (List.map T_Watch.enc [p2, (T_Watch.mk x5.2 x7.2 x9.2), x20])), (53, .int .i64 (([p2, (T_Watch.mk x5.2 x7.2 x9.2), x20]).length : Int)), (54, .int .i64 s22), (117, .bool o45)] low [⟨26, 3, [.agg [.bool p2.Over, .int .i64 p2.Since, .int .i64 p2.Last]], 0⟩, ⟨28, 2, [.agg [.int .i64 p3.Low, .int .i64 p3.High]], 0⟩, ⟨24, 3, [.agg [.int .i64 x3.2.Cut, .int .i64 x3.2.Clear, .int .i64 x3.2.Delay]], 0⟩, ⟨26, 3, [.agg [.bool x5.2, .int .i64 x7.2, .int .i64 x9.2]], 0⟩, ⟨24, 3, [.agg [.int .i64 x18.Cut, .int .i64 x18.Clear, .int .i64 x18.Delay]], 0⟩])) o45) ?_ ?_
                · replace hF := ho45
                  refine vwp_region ?_
                  rcases Bool.eq_false_or_eq_true (!((x29.1.Over == x31.1.Over) && ((x29.1.Since == x31.1.Since) && ((x29.1.Last == x31.1.Last) && true)))) with c46 | c46
                  · have hF := bifT c46 hF
                    refine vops_rd (rd_loadN (ds := [.bool x29.1.Over, .int .i64 x29.1.Since, .int .i64 x29.1.Last]) rfl (getO_N rfl rfl) rfl ta_26 ts_26 rfl rfl rfl) rfl ?_
                    refine vops_rd (rd_loadN (ds := [.bool x31.1.Over, .int .i64 x31.1.Since, .int .i64 x31.1.Last]) rfl (getO_N rfl rfl) rfl ta_26 ts_26 rfl rfl rfl) rfl ?_
                    refine vops_rd (rd_neqV (tab := eqTab) eqTab_ok rfl rfl eqg_26 rfl) rfl ?_
                    refine vops_rd (rd_mvB rfl) rfl ?_
                    refine vops_skip rfl rfl (neT c46) rfl ?_
                    refine vops_skip rfl rfl (neT c46) rfl ?_
                    refine vops_skip rfl rfl (neT c46) rfl ?_
                    refine vops_rd (rd_pickT (congrArg PV.bool c46) rfl) rfl ?_
                    refine vops_nil ?_
                    obtain rfl := Option.some.inj hF
                    refine onlyE ?_
                    exact weak_pick rfl [(0, 0), (1, 0), (2, 0), (3, 0), (4, 0)] (by decide) ⟨rn_low rfl (.int _ _), rn_ptr 0 0 rfl rfl, rn_ptr 1 1 rfl rfl, rn_ptr 2 2 rfl rfl, rn_ptr 3 3 rfl rfl, rn_low rfl (.int _ _), rn_ptr 4 4 rfl rfl, rn_low rfl (.vs _ _), rn_low rfl (.int _ _), rn_low rfl (.int _ _), rn_low rfl (.vs _ _), rn_low rfl (.int _ _), rn_low rfl (.int _ _), rn_low rfl (.bool _), trivial⟩ ⟨⟨_, rfl, rfl, .same _ _ _ _ (ltObj_es ⟨(lt_agg ⟨.bool _, .int _ _, .int _ _, trivial⟩), trivial⟩)⟩, ⟨_, rfl, rfl, .same _ _ _ _ (ltObj_es ⟨(lt_agg ⟨.int _ _, .int _ _, trivial⟩), trivial⟩)⟩, ⟨_, rfl, rfl, .same _ _ _ _ (ltObj_es ⟨(lt_agg ⟨.int _ _, .int _ _, .int _ _, trivial⟩), trivial⟩)⟩, ⟨_, rfl, rfl, .same _ _ _ _ (ltObj_es ⟨(lt_agg ⟨.bool _, .int _ _, .int _ _, trivial⟩), trivial⟩)⟩, ⟨_, rfl, rfl, .same _ _ _ _ (ltObj_es ⟨(lt_agg ⟨.int _ _, .int _ _, .int _ _, trivial⟩), trivial⟩)⟩, trivial⟩
                  · have hF := bifF c46 hF
                    refine vops_rd (rd_loadN (ds := [.bool x29.1.Over, .int .i64 x29.1.Since, .int .i64 x29.1.Last]) rfl (getO_N rfl rfl) rfl ta_26 ts_26 rfl rfl rfl) rfl ?_
                    refine vops_rd (rd_loadN (ds := [.bool x31.1.Over, .int .i64 x31.1.Since, .int .i64 x31.1.Last]) rfl (getO_N rfl rfl) rfl ta_26 ts_26 rfl rfl rfl) rfl ?_
                    refine vops_rd (rd_neqV (tab := eqTab) eqTab_ok rfl rfl eqg_26 rfl) rfl ?_
                    refine vops_rd (rd_mvB rfl) rfl ?_
                    refine vops_take rfl (congrArg PV.bool c46) ?_
                    refine vops_rd (rd_mvI rfl) rfl ?_
                    refine vops_take rfl (congrArg PV.bool c46) ?_
                    refine vops_rd (rd_mvI rfl) rfl ?_
                    refine vops_take rfl (congrArg PV.bool c46) ?_
                    refine vops_rd (rd_neq rfl rfl) rfl ?_
                    refine vops_rd (rd_pickF (congrArg PV.bool c46) rfl) rfl ?_
                    refine vops_nil ?_
                    obtain rfl := Option.some.inj hF
                    refine onlyE ?_
                    exact weak_pick rfl [(0, 0), (1, 0), (2, 0), (3, 0), (4, 0)] (by decide) ⟨rn_low rfl (.int _ _), rn_ptr 0 0 rfl rfl, rn_ptr 1 1 rfl rfl, rn_ptr 2 2 rfl rfl, rn_ptr 3 3 rfl rfl, rn_low rfl (.int _ _), rn_ptr 4 4 rfl rfl, rn_low rfl (.vs _ _), rn_low rfl (.int _ _), rn_low rfl (.int _ _), rn_low rfl (.vs _ _), rn_low rfl (.int _ _), rn_low rfl (.int _ _), rn_low rfl (.bool _), trivial⟩ ⟨⟨_, rfl, rfl, .same _ _ _ _ (ltObj_es ⟨(lt_agg ⟨.bool _, .int _ _, .int _ _, trivial⟩), trivial⟩)⟩, ⟨_, rfl, rfl, .same _ _ _ _ (ltObj_es ⟨(lt_agg ⟨.int _ _, .int _ _, trivial⟩), trivial⟩)⟩, ⟨_, rfl, rfl, .same _ _ _ _ (ltObj_es ⟨(lt_agg ⟨.int _ _, .int _ _, .int _ _, trivial⟩), trivial⟩)⟩, ⟨_, rfl, rfl, .same _ _ _ _ (ltObj_es ⟨(lt_agg ⟨.bool _, .int _ _, .int _ _, trivial⟩), trivial⟩)⟩, ⟨_, rfl, rfl, .same _ _ _ _ (ltObj_es ⟨(lt_agg ⟨.int _ _, .int _ _, .int _ _, trivial⟩), trivial⟩)⟩, trivial⟩
                · rintro _ _ _ _ ⟨rfl, hw⟩
                  refine ⟨_, _, _, hw, ?_⟩
                  refine vwp_cond rfl (fun c47 => ?_) (fun c47 => ?_)
                  · have hF := bifT c47 hF
                    refine vwp_seq ?_
                    refine vwp_region ?_
                    refine vops_rd (rd_asB rfl) rfl ?_
                    refine vops_nil ?_
                    refine vwp_ret ?_
                    obtain rfl := Option.some.inj hF
                    refine onlyE ?_
                    exact weak_pick rfl [] (by decide) ⟨rn_low rfl (.bool _), trivial⟩ trivial
                  · have hF := bifF c47 hF
                    refine vwp_skip ?_
                    refine vwp_region ?_
                    refine vops_rd (rd_add rfl rfl rfl) rfl ?_
                    refine vops_rd (rd_mvI rfl) rfl ?_
                    refine vops_nil ?_
                    obtain rfl := Option.some.inj hF
                    refine onlyE ?_
                    exact weak_sub ⟨rfl, rfl, rfl, rfl, rfl, rfl, rfl, rfl, rfl, rfl, rfl, rfl, rfl, trivial⟩
          · have hF := bifF c26 hF
            refine vwp_exit ?_
            obtain rfl := Option.some.inj hF
            refine onlyE ?_
            exact weak_sub ⟨rfl, rfl, rfl, rfl, rfl, rfl, rfl, rfl, rfl, rfl, trivial⟩
        · rcases o23 with j24 | j25
          · replace hF := elimL hF
            rintro _ _ _ _ ⟨rfl, hw⟩
            refine ⟨_, _, _, hw, ?_⟩
            obtain rfl := Option.some.inj hF
            refine onlyE ?_
            exact weak_sub ⟨rfl, trivial⟩
          · replace hF := elimR hF
            rintro _ _ _ _ ⟨rfl, hw⟩
            refine ⟨_, _, _, hw, ?_⟩
            refine vwp_seq ?_
            obtain ⟨x48, h49, hF⟩ := bnd hF
            obtain ⟨x50, h51, hF⟩ := bnd hF
            refine vwp_drawn [[], [0], [], [0, 1, 2], [0, 1, 2, 3]] [false, false, false, false, false] [(low, [⟨26, 3, [.agg [.bool p2.Over, .int .i64 p2.Since, .int .i64 p2.Last]], 0⟩, ⟨28, 2, [.agg [.int .i64 p3.Low, .int .i64 p3.High]], 0⟩, ⟨24, 3, [.agg [.int .i64 x3.2.Cut, .int .i64 x3.2.Clear, .int .i64 x3.2.Delay]], 0⟩, ⟨26, 3, [.agg [.bool x5.2, .int .i64 x7.2, .int .i64 x9.2]], 0⟩, ⟨24, 3, [.agg [.int .i64 x18.Cut, .int .i64 x18.Clear, .int .i64 x18.Delay]], 0⟩])] mixed (by kernel_rfl) rfl (lenAll (all1 rfl all0)) rfl (low, [⟨26, 3, [.agg [.bool p2.Over, .int .i64 p2.Since, .int .i64 p2.Last]], 0⟩, ⟨28, 2, [.agg [.int .i64 p3.Low, .int .i64 p3.High]], 0⟩, ⟨24, 3, [.agg [.int .i64 x3.2.Cut, .int .i64 x3.2.Clear, .int .i64 x3.2.Delay]], 0⟩, ⟨26, 3, [.agg [.bool x5.2, .int .i64 x7.2, .int .i64 x9.2]], 0⟩, ⟨24, 3, [.agg [.int .i64 x18.Cut, .int .i64 x18.Clear, .int .i64 x18.Delay]], 0⟩]) rfl rfl ?_
            refine dops_rdW [(low, [⟨26, 3, [.agg [.bool p2.Over, .int .i64 p2.Since, .int .i64 p2.Last]], 0⟩, ⟨28, 2, [.agg [.int .i64 p3.Low, .int .i64 p3.High]], 0⟩, ⟨24, 3, [.agg [.int .i64 x3.2.Cut, .int .i64 x3.2.Clear, .int .i64 x3.2.Delay]], 0⟩, ⟨26, 3, [.agg [.bool x5.2, .int .i64 x7.2, .int .i64 x9.2]], 0⟩, ⟨24, 3, [.agg [.int .i64 x18.Cut, .int .i64 x18.Clear, .int .i64 x18.Delay]], 0⟩])] rfl rfl (all1 (VRd.ntl (rd_loadN (ds := [.int .i64 x18.Cut, .int .i64 x18.Clear, .int .i64 x18.Delay]) rfl (getO_N rfl rfl) rfl ta_24 ts_24 rfl rfl rfl)) all0) ?_
            refine dops_rdW [(low, [⟨26, 3, [.agg [.bool p2.Over, .int .i64 p2.Since, .int .i64 p2.Last]], 0⟩, ⟨28, 2, [.agg [.int .i64 p3.Low, .int .i64 p3.High]], 0⟩, ⟨24, 3, [.agg [.int .i64 x3.2.Cut, .int .i64 x3.2.Clear, .int .i64 x3.2.Delay]], 0⟩, ⟨26, 3, [.agg [.bool x5.2, .int .i64 x7.2, .int .i64 x9.2]], 0⟩, ⟨24, 3, [.agg [.int .i64 x18.Cut, .int .i64 x18.Clear, .int .i64 x18.Delay]], 0⟩])] rfl rfl (all1 (nt_of (vef_callP rfl Try.call17 (F_level_Check_ok h49 _))) all0) ?_
            refine dops_rdW [(low, [⟨26, 3, [.agg [.bool p2.Over, .int .i64 p2.Since, .int .i64 p2.Last]], 0⟩, ⟨28, 2, [.agg [.int .i64 p3.Low, .int .i64 p3.High]], 0⟩, ⟨24, 3, [.agg [.int .i64 x3.2.Cut, .int .i64 x3.2.Clear, .int .i64 x3.2.Delay]], 0⟩, ⟨26, 3, [.agg [.bool x5.2, .int .i64 x7.2, .int .i64 x9.2]], 0⟩, ⟨24, 3, [.agg [.int .i64 x18.Cut, .int .i64 x18.Clear, .int .i64 x18.Delay]], 0⟩])] rfl rfl (all1 (VRd.ntl (rd_loadN (ds := [.int .i64 x18.Cut, .int .i64 x18.Clear, .int .i64 x18.Delay]) rfl (getO_N rfl rfl) rfl ta_24 ts_24 rfl rfl rfl)) all0) ?_
            refine dops_rdW [(low, [⟨26, 3, [.agg [.bool p2.Over, .int .i64 p2.Since, .int .i64 p2.Last]], 0⟩, ⟨28, 2, [.agg [.int .i64 p3.Low, .int .i64 p3.High]], 0⟩, ⟨24, 3, [.agg [.int .i64 x3.2.Cut, .int .i64 x3.2.Clear, .int .i64 x3.2.Delay]], 0⟩, ⟨26, 3, [.agg [.bool x5.2, .int .i64 x7.2, .int .i64 x9.2]], 0⟩, ⟨24, 3, [.agg [.int .i64 x18.Cut, .int .i64 x18.Clear, .int .i64 x18.Delay]], 0⟩])] rfl rfl (all1 (nt_of (vef_callP rfl Try.call18 (F_ref17_Check_ok h51 _))) all0) ?_
            refine dops_rdW [(low, [⟨26, 3, [.agg [.bool p2.Over, .int .i64 p2.Since, .int .i64 p2.Last]], 0⟩, ⟨28, 2, [.agg [.int .i64 p3.Low, .int .i64 p3.High]], 0⟩, ⟨24, 3, [.agg [.int .i64 x3.2.Cut, .int .i64 x3.2.Clear, .int .i64 x3.2.Delay]], 0⟩, ⟨26, 3, [.agg [.bool x5.2, .int .i64 x7.2, .int .i64 x9.2]], 0⟩, ⟨24, 3, [.agg [.int .i64 x18.Cut, .int .i64 x18.Clear, .int .i64 x18.Delay]], 0⟩])] rfl rfl (all1 (VRd.ntl (rd_neq rfl rfl)) all0) ?_
            refine dops_nil ?_
            refine vwp_cond rfl (fun c52 => ?_) (fun c52 => ?_)
            · have hF := bifT c52 hF
              refine vwp_seq ?_
              refine vwp_region ?_
              refine vops_rd (rd_asB rfl) rfl ?_
              refine vops_nil ?_
              refine vwp_ret ?_
              obtain rfl := Option.some.inj hF
              refine onlyE ?_
              exact weak_pick rfl [] (by decide) ⟨rn_low rfl (.bool _), trivial⟩ trivial
            · have hF := bifF c52 hF
              refine vwp_skip ?_
              refine vwp_region ?_
              refine vops_rd (rd_add rfl rfl rfl) rfl ?_
              refine vops_rd (rd_mvI rfl) rfl ?_
              refine vops_nil ?_
              obtain rfl := Option.some.inj hF
              refine onlyE ?_
              exact weak_pick rfl [(0, 0), (1, 0), (2, 0), (3, 0)] (by decide) ⟨rn_low rfl (.int _ _), rn_ptr 0 0 rfl rfl, rn_ptr 1 1 rfl rfl, rn_ptr 2 2 rfl rfl, rn_ptr 3 3 rfl rfl, rn_low rfl (.int _ _), rn_low rfl (.vs _ _), rn_low rfl (.int _ _), rn_low rfl (.int _ _), trivial⟩ ⟨⟨_, rfl, rfl, .same _ _ _ _ (ltObj_es ⟨(lt_agg ⟨.bool _, .int _ _, .int _ _, trivial⟩), trivial⟩)⟩, ⟨_, rfl, rfl, .same _ _ _ _ (ltObj_es ⟨(lt_agg ⟨.int _ _, .int _ _, trivial⟩), trivial⟩)⟩, ⟨_, rfl, rfl, .same _ _ _ _ (ltObj_es ⟨(lt_agg ⟨.int _ _, .int _ _, .int _ _, trivial⟩), trivial⟩)⟩, ⟨_, rfl, rfl, .same _ _ _ _ (ltObj_es ⟨(lt_agg ⟨.bool _, .int _ _, .int _ _, trivial⟩), trivial⟩)⟩, trivial⟩
      · have hF := bifF c17 hF
        refine vwp_exit ?_
        obtain rfl := Option.some.inj hF
        refine onlyE ?_
        exact weak_pick rfl [] (by decide) trivial trivial
    · rcases o14 with j15 | j16
      · replace hF := elimL hF
        rintro _ _ _ _ ⟨rfl, hw⟩
        refine ⟨_, _, _, hw, ?_⟩
        obtain rfl := Option.some.inj hF
        refine fnR ?_
        exact weak_sub ⟨rfl, trivial⟩
      · replace hF := elimR hF
        rintro _ _ _ _ ⟨rfl, hw⟩
        refine ⟨_, _, _, hw, ?_⟩
        refine vwp_seq ?_
        refine vwp_region ?_
        obtain ⟨x53, h54, hF⟩ := bnd hF
        obtain ⟨x55, h56, hF⟩ := bnd hF
        rcases Bool.eq_false_or_eq_true ((x53.Over == x55.Over) && ((x53.Since == x55.Since) && ((x53.Last == x55.Last) && true))) with c57 | c57
        · have hF := bifT c57 hF
          obtain ⟨x58, h59, hF⟩ := bnd hF
          refine vops_efE (vef_callP rfl Try.call14 (F_level_Begin_ok h54 _)) rfl ?_
          refine vops_efE (vef_callP rfl Try.call19 (F_ref17_Begin_ok h56 _)) rfl ?_
          refine vops_rd (rd_eqlV (tab := eqTab) eqTab_ok rfl rfl eqg_26 rfl) rfl ?_
          refine vops_rd (rd_mvB rfl) rfl ?_
          refine vops_take rfl (congrArg PV.bool c57) ?_
          refine vops_efE (vef_callP rfl Try.call20 (F_law17_awake_ok h59 _)) rfl ?_
          refine vops_rd (rd_pickT (congrArg PV.bool c57) rfl) rfl ?_
          refine vops_rd (rd_asB rfl) rfl ?_
          refine vops_nil ?_
          refine vwp_ret ?_
          obtain rfl := Option.some.inj hF
          refine fnR ?_
          exact weak_sub ⟨rfl, trivial⟩
        · have hF := bifF c57 hF
          refine vops_efE (vef_callP rfl Try.call14 (F_level_Begin_ok h54 _)) rfl ?_
          refine vops_efE (vef_callP rfl Try.call19 (F_ref17_Begin_ok h56 _)) rfl ?_
          refine vops_rd (rd_eqlV (tab := eqTab) eqTab_ok rfl rfl eqg_26 rfl) rfl ?_
          refine vops_rd (rd_mvB rfl) rfl ?_
          refine vops_skip rfl rfl (neF c57) rfl ?_
          refine vops_rd (rd_pickF (congrArg PV.bool c57) rfl) rfl ?_
          refine vops_rd (rd_asB rfl) rfl ?_
          refine vops_nil ?_
          refine vwp_ret ?_
          obtain rfl := Option.some.inj hF
          refine fnR ?_
          exact weak_sub ⟨rfl, trivial⟩
  · rintro _ _ _ _ ⟨he, hw⟩
    refine ⟨_, _, _, hw, ?_⟩
    exact bodyQ_pure he [.bool r] ⟨rfl, trivial⟩ (.bool _) ⟨rfl, rfl⟩

theorem F_ref17_Next_ok {p0 : T_Level} {p1 : T_Watch} {r : Int} (hF : F_ref17_Next p0 p1 = some r) (low : List AObj) :
    VCalls Try.prog 22 [.agg [.int .i64 p0.Cut, .int .i64 p0.Clear, .int .i64 p0.Delay], .agg [.bool p1.Over, .int .i64 p1.Since, .int .i64 p1.Last]] low fun x low' => x = .int .i64 r ∧ low' = low := by
  refine vcalls_of_body (nt := 18) (rs := [.tmp 4]) Try.func22 rfl rfl (Nat.le_of_ble_eq_true rfl) rfl ?_
  refine vwp_monoW (Q' := FnE (fun E' lw lc => Weak E' lw lc [(4, .int .i64 r)] low [])) ?_ ?_
  · unfold F_ref17_Next at hF
    refine vwp_seq ?_
    refine vwp_region ?_
    refine vops_efE (vef_boxN rfl rfl (v := .agg [.int .i64 p0.Cut, .int .i64 p0.Clear, .int .i64 p0.Delay]) rfl rfl (Nat.succ_pos _) rfl rfl) rfl ?_
    refine vops_efE (vef_boxN rfl rfl (v := .agg [.bool p1.Over, .int .i64 p1.Since, .int .i64 p1.Last]) rfl rfl (Nat.succ_pos _) rfl rfl) rfl ?_
    refine vops_rd (rd_asI rfl) rfl ?_
    refine vops_nil ?_
    refine vwp_seq ?_
    refine vwp_seq ?_
    obtain ⟨o1, ho1, hF⟩ := bnd hF
    refine vwp_monoW (Q' := (fun o1 => OnlyE .normal (fun E' lw lc => Weak E' lw lc [(2, .ptr (low.length + 0) 0 0 0), (3, .ptr (low.length + 1) 0 0 0), (12, .bool o1)] low [⟨24, 3, [.agg [.int .i64 p0.Cut, .int .i64 p0.Clear, .int .i64 p0.Delay]], 0⟩, ⟨26, 3, [.agg [.bool p1.Over, .int .i64 p1.Since, .int .i64 p1.Last]], 0⟩])) o1) ?_ ?_
    · replace hF := ho1
      refine vwp_region ?_
      obtain ⟨x2, h3, hF⟩ := bnd hF
      rcases Bool.eq_false_or_eq_true (decide (x2 ≠ 0)) with c4 | c4
      · have hF := bifT c4 hF
        refine vops_rd (rd_loadN (ds := [.int .i64 p0.Cut, .int .i64 p0.Clear, .int .i64 p0.Delay]) rfl (getO_N rfl rfl) rfl ta_24 ts_24 rfl rfl rfl) rfl ?_
        refine vops_efE (vef_callP rfl Try.call18 (F_ref17_Check_ok h3 _)) rfl ?_
        refine vops_rd (rd_neq rfl rfl) rfl ?_
        refine vops_rd (rd_mvB rfl) rfl ?_
        refine vops_skip rfl rfl (neT c4) rfl ?_
        refine vops_skip rfl rfl (neT c4) rfl ?_
        refine vops_skip rfl rfl (neT c4) rfl ?_
        refine vops_rd (rd_pickT (congrArg PV.bool c4) rfl) rfl ?_
        refine vops_nil ?_
        obtain rfl := Option.some.inj hF
        refine onlyE ?_
        exact weak_sub ⟨rfl, rfl, rfl, trivial⟩
      · have hF := bifF c4 hF
        refine vops_rd (rd_loadN (ds := [.int .i64 p0.Cut, .int .i64 p0.Clear, .int .i64 p0.Delay]) rfl (getO_N rfl rfl) rfl ta_24 ts_24 rfl rfl rfl) rfl ?_
        refine vops_efE (vef_callP rfl Try.call18 (F_ref17_Check_ok h3 _)) rfl ?_
        refine vops_rd (rd_neq rfl rfl) rfl ?_
        refine vops_rd (rd_mvB rfl) rfl ?_
        refine vops_take rfl (congrArg PV.bool c4) ?_
        refine vops_rd (rd_fieldAddr rfl tf_26_1 ts_3 (by decide)) rfl ?_
        refine vops_take rfl (congrArg PV.bool c4) ?_
        refine vops_rd (rd_load1 rfl (getO_N rfl rfl) rfl ta_3 rfl) rfl ?_
        refine vops_take rfl (congrArg PV.bool c4) ?_
        refine vops_rd (rd_lss rfl rfl) rfl ?_
        refine vops_rd (rd_pickF (congrArg PV.bool c4) rfl) rfl ?_
        refine vops_nil ?_
        obtain rfl := Option.some.inj hF
        refine onlyE ?_
        exact weak_sub ⟨rfl, rfl, rfl, trivial⟩
    · rintro _ _ _ _ ⟨rfl, hw⟩
      refine ⟨_, _, _, hw, ?_⟩
      refine vwp_cond rfl (fun c5 => ?_) (fun c5 => ?_)
      · have hF := bifT c5 hF
        refine vwp_seq ?_
        refine vwp_region ?_
        refine vops_rd (rd_asI rfl) rfl ?_
        refine vops_nil ?_
        refine vwp_ret ?_
        obtain rfl := Option.some.inj hF
        refine fnR ?_
        exact weak_pick rfl [] (by decide) ⟨rn_low rfl (.int _ _), trivial⟩ trivial
      · have hF := bifF c5 hF
        refine vwp_skip ?_
        refine vwp_seq ?_
        refine vwp_region ?_
        refine vops_rd (rd_fieldAddr rfl tf_26_1 ts_3 (by decide)) rfl ?_
        refine vops_rd (rd_load1 rfl (getO_N rfl rfl) rfl ta_3 rfl) rfl ?_
        refine vops_rd (rd_fieldAddr rfl tf_24_2 ts_3 (by decide)) rfl ?_
        refine vops_rd (rd_load1 rfl (getO_N rfl rfl) rfl ta_3 rfl) rfl ?_
        refine vops_rd (rd_add rfl rfl rfl) rfl ?_
        refine vops_rd (rd_asI rfl) rfl ?_
        refine vops_nil ?_
        refine vwp_ret ?_
        obtain rfl := Option.some.inj hF
        refine fnR ?_
        exact weak_pick rfl [] (by decide) ⟨rn_low rfl (.int _ _), trivial⟩ trivial
  · rintro _ _ _ _ ⟨he, hw⟩
    refine ⟨_, _, _, hw, ?_⟩
    exact bodyQ_pure he [.int .i64 r] ⟨rfl, trivial⟩ (.int _ _) ⟨rfl, rfl⟩

theorem F_law17_LevelNext_ok {p0 : List Int} {p1 : T_Level} {p2 : T_Watch} {r : Bool} (hF : F_law17_LevelNext p0 p1 p2 = some r) (low : List AObj) :
    VCalls Try.prog 4 [.vs 1 (List.map (PV.int .u8) p0), .agg [.int .i64 p1.Cut, .int .i64 p1.Clear, .int .i64 p1.Delay], .agg [.bool p2.Over, .int .i64 p2.Since, .int .i64 p2.Last]] low fun x low' => x = .bool r ∧ low' = low := by
  refine vcalls_of_body (nt := 49) (rs := [.tmp 6]) Try.func4 rfl rfl (Nat.le_of_ble_eq_true rfl) rfl ?_
  refine vwp_monoW (Q' := FnE (fun E' lw lc => Weak E' lw lc [(6, .bool r)] low [])) ?_ ?_
  · unfold F_law17_LevelNext at hF
    refine vwp_seq ?_
    refine vwp_region ?_
    refine vops_efE (vef_boxN rfl rfl (v := .agg [.int .i64 p1.Cut, .int .i64 p1.Clear, .int .i64 p1.Delay]) rfl rfl (Nat.succ_pos _) rfl rfl) rfl ?_
    refine vops_efE (vef_boxN rfl rfl (v := .agg [.bool p2.Over, .int .i64 p2.Since, .int .i64 p2.Last]) rfl rfl (Nat.succ_pos _) rfl rfl) rfl ?_
    refine vops_rd (rd_asB rfl) rfl ?_
    refine vops_nil ?_
    refine vwp_seq ?_
    refine vwp_seq ?_
    refine vwp_region ?_
    refine vops_rd (rd_fieldAddr rfl tf_26_1 ts_3 (by decide)) rfl ?_
    refine vops_rd (rd_load1 rfl (getO_N rfl rfl) rfl ta_3 rfl) rfl ?_
    refine vops_rd (rd_gtr rfl rfl) rfl ?_
    refine vops_nil ?_
    refine vwp_cond rfl (fun c1 => ?_) (fun c1 => ?_)
    · have hF := bifT c1 hF
      refine vwp_seq ?_
      refine vwp_region ?_
      obtain ⟨x2, h3, hF⟩ := bnd hF
      refine vops_efE (vef_callP rfl Try.call20 (F_law17_awake_ok h3 _)) rfl ?_
      refine vops_rd (rd_asB rfl) rfl ?_
      refine vops_nil ?_
      refine vwp_ret ?_
      obtain rfl := Option.some.inj hF
      refine fnR ?_
      exact weak_pick rfl [] (by decide) ⟨rn_low rfl (.bool _), trivial⟩ trivial
    · have hF := bifF c1 hF
      refine vwp_skip ?_
      refine vwp_seq ?_
      refine vwp_region ?_
      obtain ⟨x4, h5, hF⟩ := bnd hF
      refine vops_rd (rd_mvV rfl) rfl ?_
      refine vops_efE (vef_callN (r := .ptr (low.length + 2) 0 0 0) (os := [⟨53, 2, [.agg [.vs 1 (List.map (PV.int .u8) x4.l), .int .i64 x4.at_]], 0⟩]) rfl Try.call9 (F_draw_New_ok h5 _ (len_app rfl rfl))) rfl ?_
      refine vops_rd (rd_asP rfl) rfl ?_
      refine vops_nil ?_
      refine vwp_seq ?_
      refine vwp_region ?_
      obtain ⟨x6, h7, hF⟩ := bnd hF
      obtain ⟨x8, h9, hF⟩ := bnd hF
      refine vops_rd (rd_mvP rfl) rfl ?_
      refine vops_efE (vef_callMN (k := 2) (loc1 := [⟨24, 3, [.agg [.int .i64 p1.Cut, .int .i64 p1.Clear, .int .i64 p1.Delay]], 0⟩, ⟨26, 3, [.agg [.bool p2.Over, .int .i64 p2.Since, .int .i64 p2.Last]], 0⟩, ⟨53, 2, [.agg [.vs 1 (List.map (PV.int .u8) x6.1.l), .int .i64 x6.1.at_]], 0⟩]) rfl rfl Try.call10 (F_draw_Codes_Level_ok h7 (get_N rfl rfl)) rfl) rfl ?_
      refine vops_rd (rd_mvP rfl) rfl ?_
      refine vops_efE (vef_callMN (k := 2) (loc1 := [⟨24, 3, [.agg [.int .i64 p1.Cut, .int .i64 p1.Clear, .int .i64 p1.Delay]], 0⟩, ⟨26, 3, [.agg [.bool p2.Over, .int .i64 p2.Since, .int .i64 p2.Last]], 0⟩, ⟨53, 2, [.agg [.vs 1 (List.map (PV.int .u8) x8.1.l), .int .i64 x8.1.at_]], 0⟩]) rfl rfl Try.call12 (F_draw_Codes_Range_ok h9 (get_N rfl rfl)) rfl) rfl ?_
      refine vops_rd (rd_build (vs := [(0, .bool true), (1, .int .i64 x8.2)]) (ds := [.bool true, .int .i64 x8.2, .int .i64 0]) tz_26 rfl rfl tp_26 ⟨rfl, rfl, rfl, rfl, trivial⟩ (nt_all2 rfl) rfl) rfl ?_
      refine vops_efE (vef_allocN rfl rfl tz_24 rfl rfl (Nat.succ_pos _) rfl) rfl ?_
      refine vops_efE (vef_allocN rfl rfl tz_26 rfl rfl (Nat.succ_pos _) rfl) rfl ?_
      refine vops_efE (vef_store (p := .agg [.int .i64 x6.2.Cut, .int .i64 x6.2.Clear, .int .i64 x6.2.Delay]) (e' := .agg [.int .i64 x6.2.Cut, .int .i64 x6.2.Clear, .int .i64 x6.2.Delay]) rfl (getO_N rfl rfl) rfl rfl ts_24 rfl (nt_ne rfl) rfl (Nat.le_of_ble_eq_true rfl) rfl (setO_N rfl rfl)) rfl ?_
      refine vops_efE (vef_store (p := .agg [.bool true, .int .i64 x8.2, .int .i64 0]) (e' := .agg [.bool true, .int .i64 x8.2, .int .i64 0]) rfl (getO_N rfl rfl) rfl rfl ts_26 rfl (nt_ne rfl) rfl (Nat.le_of_ble_eq_true rfl) rfl (setO_N rfl rfl)) rfl ?_
      refine vops_nil ?_
      refine vwp_seq ?_
      obtain ⟨x10, h11, hF⟩ := bnd hF
      obtain ⟨x12, h13, hF⟩ := bnd hF
      rcases Bool.eq_false_or_eq_true (decide (x10 = x12)) with c14 | c14
      · have hF := bifT c14 hF
        obtain ⟨x15, h16, hF⟩ := bnd hF
        obtain ⟨x17, h18, hF⟩ := bnd hF
        rcases Bool.eq_false_or_eq_true (decide (x15 = x17)) with c19 | c19
        · have hF := bifT c19 hF
          obtain ⟨x20, h21, hF⟩ := bnd hF
          obtain ⟨x22, h23, hF⟩ := bnd hF
          rcases Bool.eq_false_or_eq_true (decide (x20 = x22)) with c24 | c24
          · have hF := bifT c24 hF
            obtain ⟨x25, h26, hF⟩ := bnd hF
            refine vwp_drawn [[], [], [0, 1], [], [], [0, 1, 2, 3, 4], [0, 1, 2, 3, 4, 5], [0, 1, 2, 3, 4, 5, 6], [0, 1, 2, 3, 4, 5, 6, 7], [0, 1, 2, 3, 4, 5, 6, 7], [0, 1, 2, 3, 4, 5, 6, 7, 8, 9], [0, 1, 2, 3, 4, 5, 6, 7], [0, 1, 2, 3, 4, 5, 6, 7], [0, 1, 2, 3, 4, 5, 6, 7, 8, 9, 10, 11, 12], [0, 1, 2, 3, 4, 5, 6, 7, 8, 9, 10, 11, 12, 13], [0, 1, 2, 3, 4, 5, 6, 7, 8, 9, 10, 11, 12, 13, 14], [0, 1, 2, 3, 4, 5, 6, 7, 8, 9, 10, 11, 12, 13, 14, 15], [0, 1, 2, 3, 4, 5, 6, 7, 8, 9, 10, 11, 12, 13, 14, 15, 16], [0, 1, 2, 3, 4, 5, 6, 7, 8, 9, 10, 11, 12, 13, 14, 15, 16], [0, 1, 2, 3, 4, 5, 6, 7, 8, 9, 10, 11, 12, 13, 14, 15, 16, 17, 18], [0, 1, 2, 3, 4, 5, 6, 7, 8, 9, 10, 11, 12, 13, 14, 15, 16], [0, 1, 2, 3, 4, 5, 6, 7, 8, 9, 10, 11, 12, 13, 14, 15, 16], [0, 1, 2, 3, 4, 5, 6, 7, 8, 9, 10, 11, 12, 13, 14, 15, 16, 17, 18, 19, 20, 21], [0, 1, 2, 3, 4, 5, 6, 7, 8, 9, 10, 11, 12, 13, 14, 15, 16, 17, 18, 19, 20, 21, 22], [0, 1, 2, 3, 4, 5, 6, 7, 8, 9, 10, 11, 12, 13, 14, 15, 16, 17, 18, 19, 20, 21, 22, 23], [0, 1, 2, 3, 4, 5, 6, 7, 8, 9, 10, 11, 12, 13, 14, 15, 16, 17, 18, 19, 20, 21, 22, 23, 24], [0, 1, 2, 3, 4, 5, 6, 7, 8, 9, 10, 11, 12, 13, 14, 15, 16, 17, 18, 19, 20, 21, 22, 23, 24, 25], [0, 1, 2, 3, 4, 5, 6, 7, 8, 9, 10, 11, 12, 13, 14, 15, 16, 17, 18, 19, 20, 21, 22, 23, 24, 25, 26], [0, 1, 2, 3, 4, 5, 6, 7, 8, 9, 10, 11, 12, 13, 14, 15, 16, 17, 18, 19, 20, 21, 22, 23, 24, 25, 26, 27]] [false, false, false, false, false, false, false, false, false, false, false, false, false, false, false, false, false, false, false, false, false, false, false, false, false, false, false, false, false] [(low, [⟨24, 3, [.agg [.int .i64 p1.Cut, .int .i64 p1.Clear, .int .i64 p1.Delay]], 0⟩, ⟨26, 3, [.agg [.bool p2.Over, .int .i64 p2.Since, .int .i64 p2.Last]], 0⟩, ⟨53, 2, [.agg [.vs 1 (List.map (PV.int .u8) x8.1.l), .int .i64 x8.1.at_]], 0⟩, ⟨24, 3, [.agg [.int .i64 x6.2.Cut, .int .i64 x6.2.Clear, .int .i64 x6.2.Delay]], 0⟩, ⟨26, 3, [.agg [.bool true, .int .i64 x8.2, .int .i64 0]], 0⟩])] mixed (by kernel_rfl) rfl (lenAll (all1 rfl all0)) rfl (low, [⟨24, 3, [.agg [.int .i64 p1.Cut, .int .i64 p1.Clear, .int .i64 p1.Delay]], 0⟩, ⟨26, 3, [.agg [.bool p2.Over, .int .i64 p2.Since, .int .i64 p2.Last]], 0⟩, ⟨53, 2, [.agg [.vs 1 (List.map (PV.int .u8) x8.1.l), .int .i64 x8.1.at_]], 0⟩, ⟨24, 3, [.agg [.int .i64 x6.2.Cut, .int .i64 x6.2.Clear, .int .i64 x6.2.Delay]], 0⟩, ⟨26, 3, [.agg [.bool true, .int .i64 x8.2, .int .i64 0]], 0⟩]) rfl rfl ?_
            refine dops_rdW [(low, [⟨24, 3, [.agg [.int .i64 p1.Cut, .int .i64 p1.Clear, .int .i64 p1.Delay]], 0⟩, ⟨26, 3, [.agg [.bool p2.Over, .int .i64 p2.Since, .int .i64 p2.Last]], 0⟩, ⟨53, 2, [.agg [.vs 1 (List.map (PV.int .u8) x8.1.l), .int .i64 x8.1.at_]], 0⟩, ⟨24, 3, [.agg [.int .i64 x6.2.Cut, .int .i64 x6.2.Clear, .int .i64 x6.2.Delay]], 0⟩, ⟨26, 3, [.agg [.bool true, .int .i64 x8.2, .int .i64 0]], 0⟩])] rfl rfl (all1 (VRd.ntl (rd_loadN (ds := [.int .i64 x6.2.Cut, .int .i64 x6.2.Clear, .int .i64 x6.2.Delay]) rfl (getO_N rfl rfl) rfl ta_24 ts_24 rfl rfl rfl)) all0) ?_
            refine dops_rdW [(low, [⟨24, 3, [.agg [.int .i64 p1.Cut, .int .i64 p1.Clear, .int .i64 p1.Delay]], 0⟩, ⟨26, 3, [.agg [.bool p2.Over, .int .i64 p2.Since, .int .i64 p2.Last]], 0⟩, ⟨53, 2, [.agg [.vs 1 (List.map (PV.int .u8) x8.1.l), .int .i64 x8.1.at_]], 0⟩, ⟨24, 3, [.agg [.int .i64 x6.2.Cut, .int .i64 x6.2.Clear, .int .i64 x6.2.Delay]], 0⟩, ⟨26, 3, [.agg [.bool true, .int .i64 x8.2, .int .i64 0]], 0⟩])] rfl rfl (all1 (VRd.ntl (rd_loadN (ds := [.bool p2.Over, .int .i64 p2.Since, .int .i64 p2.Last]) rfl (getO_N rfl rfl) rfl ta_26 ts_26 rfl rfl rfl)) all0) ?_
            refine dops_rdW [(low, [⟨24, 3, [.agg [.int .i64 p1.Cut, .int .i64 p1.Clear, .int .i64 p1.Delay]], 0⟩, ⟨26, 3, [.agg [.bool p2.Over, .int .i64 p2.Since, .int .i64 p2.Last]], 0⟩, ⟨53, 2, [.agg [.vs 1 (List.map (PV.int .u8) x8.1.l), .int .i64 x8.1.at_]], 0⟩, ⟨24, 3, [.agg [.int .i64 x6.2.Cut, .int .i64 x6.2.Clear, .int .i64 x6.2.Delay]], 0⟩, ⟨26, 3, [.agg [.bool true, .int .i64 x8.2, .int .i64 0]], 0⟩])] rfl rfl (all1 (nt_of (vef_callP rfl Try.call21 (F_level_Next_ok h11 _))) all0) ?_
            refine dops_rdW [(low, [⟨24, 3, [.agg [.int .i64 p1.Cut, .int .i64 p1.Clear, .int .i64 p1.Delay]], 0⟩, ⟨26, 3, [.agg [.bool p2.Over, .int .i64 p2.Since, .int .i64 p2.Last]], 0⟩, ⟨53, 2, [.agg [.vs 1 (List.map (PV.int .u8) x8.1.l), .int .i64 x8.1.at_]], 0⟩, ⟨24, 3, [.agg [.int .i64 x6.2.Cut, .int .i64 x6.2.Clear, .int .i64 x6.2.Delay]], 0⟩, ⟨26, 3, [.agg [.bool true, .int .i64 x8.2, .int .i64 0]], 0⟩])] rfl rfl (all1 (VRd.ntl (rd_loadN (ds := [.int .i64 x6.2.Cut, .int .i64 x6.2.Clear, .int .i64 x6.2.Delay]) rfl (getO_N rfl rfl) rfl ta_24 ts_24 rfl rfl rfl)) all0) ?_
            refine dops_rdW [(low, [⟨24, 3, [.agg [.int .i64 p1.Cut, .int .i64 p1.Clear, .int .i64 p1.Delay]], 0⟩, ⟨26, 3, [.agg [.bool p2.Over, .int .i64 p2.Since, .int .i64 p2.Last]], 0⟩, ⟨53, 2, [.agg [.vs 1 (List.map (PV.int .u8) x8.1.l), .int .i64 x8.1.at_]], 0⟩, ⟨24, 3, [.agg [.int .i64 x6.2.Cut, .int .i64 x6.2.Clear, .int .i64 x6.2.Delay]], 0⟩, ⟨26, 3, [.agg [.bool true, .int .i64 x8.2, .int .i64 0]], 0⟩])] rfl rfl (all1 (VRd.ntl (rd_loadN (ds := [.bool p2.Over, .int .i64 p2.Since, .int .i64 p2.Last]) rfl (getO_N rfl rfl) rfl ta_26 ts_26 rfl rfl rfl)) all0) ?_
            refine dops_rdW [(low, [⟨24, 3, [.agg [.int .i64 p1.Cut, .int .i64 p1.Clear, .int .i64 p1.Delay]], 0⟩, ⟨26, 3, [.agg [.bool p2.Over, .int .i64 p2.Since, .int .i64 p2.Last]], 0⟩, ⟨53, 2, [.agg [.vs 1 (List.map (PV.int .u8) x8.1.l), .int .i64 x8.1.at_]], 0⟩, ⟨24, 3, [.agg [.int .i64 x6.2.Cut, .int .i64 x6.2.Clear, .int .i64 x6.2.Delay]], 0⟩, ⟨26, 3, [.agg [.bool true, .int .i64 x8.2, .int .i64 0]], 0⟩])] rfl rfl (all1 (nt_of (vef_callP rfl Try.call22 (F_ref17_Next_ok h13 _))) all0) ?_
            refine dops_rdW [(low, [⟨24, 3, [.agg [.int .i64 p1.Cut, .int .i64 p1.Clear, .int .i64 p1.Delay]], 0⟩, ⟨26, 3, [.agg [.bool p2.Over, .int .i64 p2.Since, .int .i64 p2.Last]], 0⟩, ⟨53, 2, [.agg [.vs 1 (List.map (PV.int .u8) x8.1.l), .int .i64 x8.1.at_]], 0⟩, ⟨24, 3, [.agg [.int .i64 x6.2.Cut, .int .i64 x6.2.Clear, .int .i64 x6.2.Delay]], 0⟩, ⟨26, 3, [.agg [.bool true, .int .i64 x8.2, .int .i64 0]], 0⟩])] rfl rfl (all1 (VRd.ntl (rd_eql rfl rfl)) all0) ?_
            refine dops_rdW [(low, [⟨24, 3, [.agg [.int .i64 p1.Cut, .int .i64 p1.Clear, .int .i64 p1.Delay]], 0⟩, ⟨26, 3, [.agg [.bool p2.Over, .int .i64 p2.Since, .int .i64 p2.Last]], 0⟩, ⟨53, 2, [.agg [.vs 1 (List.map (PV.int .u8) x8.1.l), .int .i64 x8.1.at_]], 0⟩, ⟨24, 3, [.agg [.int .i64 x6.2.Cut, .int .i64 x6.2.Clear, .int .i64 x6.2.Delay]], 0⟩, ⟨26, 3, [.agg [.bool true, .int .i64 x8.2, .int .i64 0]], 0⟩])] rfl rfl (all1 (VRd.ntl (rd_mvB rfl)) all0) ?_
            refine dops_takeW [(low, [⟨24, 3, [.agg [.int .i64 p1.Cut, .int .i64 p1.Clear, .int .i64 p1.Delay]], 0⟩, ⟨26, 3, [.agg [.bool p2.Over, .int .i64 p2.Since, .int .i64 p2.Last]], 0⟩, ⟨53, 2, [.agg [.vs 1 (List.map (PV.int .u8) x8.1.l), .int .i64 x8.1.at_]], 0⟩, ⟨24, 3, [.agg [.int .i64 x6.2.Cut, .int .i64 x6.2.Clear, .int .i64 x6.2.Delay]], 0⟩, ⟨26, 3, [.agg [.bool true, .int .i64 x8.2, .int .i64 0]], 0⟩])] rfl rfl rfl (congrArg PV.bool c14) (all1 (VRd.ntl (rd_loadN (ds := [.int .i64 p1.Cut, .int .i64 p1.Clear, .int .i64 p1.Delay]) rfl (getO_N rfl rfl) rfl ta_24 ts_24 rfl rfl rfl)) all0) ?_
            refine dops_takeW [(low, [⟨24, 3, [.agg [.int .i64 p1.Cut, .int .i64 p1.Clear, .int .i64 p1.Delay]], 0⟩, ⟨26, 3, [.agg [.bool p2.Over, .int .i64 p2.Since, .int .i64 p2.Last]], 0⟩, ⟨53, 2, [.agg [.vs 1 (List.map (PV.int .u8) x8.1.l), .int .i64 x8.1.at_]], 0⟩, ⟨24, 3, [.agg [.int .i64 x6.2.Cut, .int .i64 x6.2.Clear, .int .i64 x6.2.Delay]], 0⟩, ⟨26, 3, [.agg [.bool true, .int .i64 x8.2, .int .i64 0]], 0⟩])] rfl rfl rfl (congrArg PV.bool c14) (all1 (VRd.ntl (rd_loadN (ds := [.bool p2.Over, .int .i64 p2.Since, .int .i64 p2.Last]) rfl (getO_N rfl rfl) rfl ta_26 ts_26 rfl rfl rfl)) all0) ?_
            refine dops_takeW [(low, [⟨24, 3, [.agg [.int .i64 p1.Cut, .int .i64 p1.Clear, .int .i64 p1.Delay]], 0⟩, ⟨26, 3, [.agg [.bool p2.Over, .int .i64 p2.Since, .int .i64 p2.Last]], 0⟩, ⟨53, 2, [.agg [.vs 1 (List.map (PV.int .u8) x8.1.l), .int .i64 x8.1.at_]], 0⟩, ⟨24, 3, [.agg [.int .i64 x6.2.Cut, .int .i64 x6.2.Clear, .int .i64 x6.2.Delay]], 0⟩, ⟨26, 3, [.agg [.bool true, .int .i64 x8.2, .int .i64 0]], 0⟩])] rfl rfl rfl (congrArg PV.bool c14) (all1 (nt_of (vef_callP rfl Try.call21 (F_level_Next_ok h16 _))) all0) ?_
            refine dops_takeW [(low, [⟨24, 3, [.agg [.int .i64 p1.Cut, .int .i64 p1.Clear, .int .i64 p1.Delay]], 0⟩, ⟨26, 3, [.agg [.bool p2.Over, .int .i64 p2.Since, .int .i64 p2.Last]], 0⟩, ⟨53, 2, [.agg [.vs 1 (List.map (PV.int .u8) x8.1.l), .int .i64 x8.1.at_]], 0⟩, ⟨24, 3, [.agg [.int .i64 x6.2.Cut, .int .i64 x6.2.Clear, .int .i64 x6.2.Delay]], 0⟩, ⟨26, 3, [.agg [.bool true, .int .i64 x8.2, .int .i64 0]], 0⟩])] rfl rfl rfl (congrArg PV.bool c14) (all1 (VRd.ntl (rd_loadN (ds := [.int .i64 p1.Cut, .int .i64 p1.Clear, .int .i64 p1.Delay]) rfl (getO_N rfl rfl) rfl ta_24 ts_24 rfl rfl rfl)) all0) ?_
            refine dops_takeW [(low, [⟨24, 3, [.agg [.int .i64 p1.Cut, .int .i64 p1.Clear, .int .i64 p1.Delay]], 0⟩, ⟨26, 3, [.agg [.bool p2.Over, .int .i64 p2.Since, .int .i64 p2.Last]], 0⟩, ⟨53, 2, [.agg [.vs 1 (List.map (PV.int .u8) x8.1.l), .int .i64 x8.1.at_]], 0⟩, ⟨24, 3, [.agg [.int .i64 x6.2.Cut, .int .i64 x6.2.Clear, .int .i64 x6.2.Delay]], 0⟩, ⟨26, 3, [.agg [.bool true, .int .i64 x8.2, .int .i64 0]], 0⟩])] rfl rfl rfl (congrArg PV.bool c14) (all1 (VRd.ntl (rd_loadN (ds := [.bool p2.Over, .int .i64 p2.Since, .int .i64 p2.Last]) rfl (getO_N rfl rfl) rfl ta_26 ts_26 rfl rfl rfl)) all0) ?_
            refine dops_takeW [(low, [⟨24, 3, [.agg [.int .i64 p1.Cut, .int .i64 p1.Clear, .int .i64 p1.Delay]], 0⟩, ⟨26, 3, [.agg [.bool p2.Over, .int .i64 p2.Since, .int .i64 p2.Last]], 0⟩, ⟨53, 2, [.agg [.vs 1 (List.map (PV.int .u8) x8.1.l), .int .i64 x8.1.at_]], 0⟩, ⟨24, 3, [.agg [.int .i64 x6.2.Cut, .int .i64 x6.2.Clear, .int .i64 x6.2.Delay]], 0⟩, ⟨26, 3, [.agg [.bool true, .int .i64 x8.2, .int .i64 0]], 0⟩])] rfl rfl rfl (congrArg PV.bool c14) (all1 (nt_of (vef_callP rfl Try.call22 (F_ref17_Next_ok h18 _))) all0) ?_
            refine dops_takeW [(low, [⟨24, 3, [.agg [.int .i64 p1.Cut, .int .i64 p1.Clear, .int .i64 p1.Delay]], 0⟩, ⟨26, 3, [.agg [.bool p2.Over, .int .i64 p2.Since, .int .i64 p2.Last]], 0⟩, ⟨53, 2, [.agg [.vs 1 (List.map (PV.int .u8) x8.1.l), .int .i64 x8.1.at_]], 0⟩, ⟨24, 3, [.agg [.int .i64 x6.2.Cut, .int .i64 x6.2.Clear, .int .i64 x6.2.Delay]], 0⟩, ⟨26, 3, [.agg [.bool true, .int .i64 x8.2, .int .i64 0]], 0⟩])] rfl rfl rfl (congrArg PV.bool c14) (all1 (VRd.ntl (rd_eql rfl rfl)) all0) ?_
            refine dops_rdW [(low, [⟨24, 3, [.agg [.int .i64 p1.Cut, .int .i64 p1.Clear, .int .i64 p1.Delay]], 0⟩, ⟨26, 3, [.agg [.bool p2.Over, .int .i64 p2.Since, .int .i64 p2.Last]], 0⟩, ⟨53, 2, [.agg [.vs 1 (List.map (PV.int .u8) x8.1.l), .int .i64 x8.1.at_]], 0⟩, ⟨24, 3, [.agg [.int .i64 x6.2.Cut, .int .i64 x6.2.Clear, .int .i64 x6.2.Delay]], 0⟩, ⟨26, 3, [.agg [.bool true, .int .i64 x8.2, .int .i64 0]], 0⟩])] rfl rfl (all1 (VRd.ntl (rd_pickT (congrArg PV.bool c14) rfl)) all0) ?_
            refine dops_rdW [(low, [⟨24, 3, [.agg [.int .i64 p1.Cut, .int .i64 p1.Clear, .int .i64 p1.Delay]], 0⟩, ⟨26, 3, [.agg [.bool p2.Over, .int .i64 p2.Since, .int .i64 p2.Last]], 0⟩, ⟨53, 2, [.agg [.vs 1 (List.map (PV.int .u8) x8.1.l), .int .i64 x8.1.at_]], 0⟩, ⟨24, 3, [.agg [.int .i64 x6.2.Cut, .int .i64 x6.2.Clear, .int .i64 x6.2.Delay]], 0⟩, ⟨26, 3, [.agg [.bool true, .int .i64 x8.2, .int .i64 0]], 0⟩])] rfl rfl (all1 (VRd.ntl (rd_mvB rfl)) all0) ?_
            refine dops_takeW [(low, [⟨24, 3, [.agg [.int .i64 p1.Cut, .int .i64 p1.Clear, .int .i64 p1.Delay]], 0⟩, ⟨26, 3, [.agg [.bool p2.Over, .int .i64 p2.Since, .int .i64 p2.Last]], 0⟩, ⟨53, 2, [.agg [.vs 1 (List.map (PV.int .u8) x8.1.l), .int .i64 x8.1.at_]], 0⟩, ⟨24, 3, [.agg [.int .i64 x6.2.Cut, .int .i64 x6.2.Clear, .int .i64 x6.2.Delay]], 0⟩, ⟨26, 3, [.agg [.bool true, .int .i64 x8.2, .int .i64 0]], 0⟩])] rfl rfl rfl (congrArg PV.bool c19) (all1 (VRd.ntl (rd_loadN (ds := [.int .i64 x6.2.Cut, .int .i64 x6.2.Clear, .int .i64 x6.2.Delay]) rfl (getO_N rfl rfl) rfl ta_24 ts_24 rfl rfl rfl)) all0) ?_
            refine dops_takeW [(low, [⟨24, 3, [.agg [.int .i64 p1.Cut, .int .i64 p1.Clear, .int .i64 p1.Delay]], 0⟩, ⟨26, 3, [.agg [.bool p2.Over, .int .i64 p2.Since, .int .i64 p2.Last]], 0⟩, ⟨53, 2, [.agg [.vs 1 (List.map (PV.int .u8) x8.1.l), .int .i64 x8.1.at_]], 0⟩, ⟨24, 3, [.agg [.int .i64 x6.2.Cut, .int .i64 x6.2.Clear, .int .i64 x6.2.Delay]], 0⟩, ⟨26, 3, [.agg [.bool true, .int .i64 x8.2, .int .i64 0]], 0⟩])] rfl rfl rfl (congrArg PV.bool c19) (all1 (VRd.ntl (rd_loadN (ds := [.bool true, .int .i64 x8.2, .int .i64 0]) rfl (getO_N rfl rfl) rfl ta_26 ts_26 rfl rfl rfl)) all0) ?_
            refine dops_takeW [(low, [⟨24, 3, [.agg [.int .i64 p1.Cut, .int .i64 p1.Clear, .int .i64 p1.Delay]], 0⟩, ⟨26, 3, [.agg [.bool p2.Over, .int .i64 p2.Since, .int .i64 p2.Last]], 0⟩, ⟨53, 2, [.agg [.vs 1 (List.map (PV.int .u8) x8.1.l), .int .i64 x8.1.at_]], 0⟩, ⟨24, 3, [.agg [.int .i64 x6.2.Cut, .int .i64 x6.2.Clear, .int .i64 x6.2.Delay]], 0⟩, ⟨26, 3, [.agg [.bool true, .int .i64 x8.2, .int .i64 0]], 0⟩])] rfl rfl rfl (congrArg PV.bool c19) (all1 (nt_of (vef_callP rfl Try.call21 (F_level_Next_ok h21 _))) all0) ?_
            refine dops_takeW [(low, [⟨24, 3, [.agg [.int .i64 p1.Cut, .int .i64 p1.Clear, .int .i64 p1.Delay]], 0⟩, ⟨26, 3, [.agg [.bool p2.Over, .int .i64 p2.Since, .int .i64 p2.Last]], 0⟩, ⟨53, 2, [.agg [.vs 1 (List.map (PV.int .u8) x8.1.l), .int .i64 x8.1.at_]], 0⟩, ⟨24, 3, [.agg [.int .i64 x6.2.Cut, .int .i64 x6.2.Clear, .int .i64 x6.2.Delay]], 0⟩, ⟨26, 3, [.agg [.bool true, .int .i64 x8.2, .int .i64 0]], 0⟩])] rfl rfl rfl (congrArg PV.bool c19) (all1 (VRd.ntl (rd_loadN (ds := [.int .i64 x6.2.Cut, .int .i64 x6.2.Clear, .int .i64 x6.2.Delay]) rfl (getO_N rfl rfl) rfl ta_24 ts_24 rfl rfl rfl)) all0) ?_
            refine dops_takeW [(low, [⟨24, 3, [.agg [.int .i64 p1.Cut, .int .i64 p1.Clear, .int .i64 p1.Delay]], 0⟩, ⟨26, 3, [.agg [.bool p2.Over, .int .i64 p2.Since, .int .i64 p2.Last]], 0⟩, ⟨53, 2, [.agg [.vs 1 (List.map (PV.int .u8) x8.1.l), .int .i64 x8.1.at_]], 0⟩, ⟨24, 3, [.agg [.int .i64 x6.2.Cut, .int .i64 x6.2.Clear, .int .i64 x6.2.Delay]], 0⟩, ⟨26, 3, [.agg [.bool true, .int .i64 x8.2, .int .i64 0]], 0⟩])] rfl rfl rfl (congrArg PV.bool c19) (all1 (VRd.ntl (rd_loadN (ds := [.bool true, .int .i64 x8.2, .int .i64 0]) rfl (getO_N rfl rfl) rfl ta_26 ts_26 rfl rfl rfl)) all0) ?_
            refine dops_takeW [(low, [⟨24, 3, [.agg [.int .i64 p1.Cut, .int .i64 p1.Clear, .int .i64 p1.Delay]], 0⟩, ⟨26, 3, [.agg [.bool p2.Over, .int .i64 p2.Since, .int .i64 p2.Last]], 0⟩, ⟨53, 2, [.agg [.vs 1 (List.map (PV.int .u8) x8.1.l), .int .i64 x8.1.at_]], 0⟩, ⟨24, 3, [.agg [.int .i64 x6.2.Cut, .int .i64 x6.2.Clear, .int .i64 x6.2.Delay]], 0⟩, ⟨26, 3, [.agg [.bool true, .int .i64 x8.2, .int .i64 0]], 0⟩])] rfl rfl rfl (congrArg PV.bool c19) (all1 (nt_of (vef_callP rfl Try.call22 (F_ref17_Next_ok h23 _))) all0) ?_
            refine dops_takeW [(low, [⟨24, 3, [.agg [.int .i64 p1.Cut, .int .i64 p1.Clear, .int .i64 p1.Delay]], 0⟩, ⟨26, 3, [.agg [.bool p2.Over, .int .i64 p2.Since, .int .i64 p2.Last]], 0⟩, ⟨53, 2, [.agg [.vs 1 (List.map (PV.int .u8) x8.1.l), .int .i64 x8.1.at_]], 0⟩, ⟨24, 3, [.agg [.int .i64 x6.2.Cut, .int .i64 x6.2.Clear, .int .i64 x6.2.Delay]], 0⟩, ⟨26, 3, [.agg [.bool true, .int .i64 x8.2, .int .i64 0]], 0⟩])] rfl rfl rfl (congrArg PV.bool c19) (all1 (VRd.ntl (rd_eql rfl rfl)) all0) ?_
            refine dops_rdW [(low, [⟨24, 3, [.agg [.int .i64 p1.Cut, .int .i64 p1.Clear, .int .i64 p1.Delay]], 0⟩, ⟨26, 3, [.agg [.bool p2.Over, .int .i64 p2.Since, .int .i64 p2.Last]], 0⟩, ⟨53, 2, [.agg [.vs 1 (List.map (PV.int .u8) x8.1.l), .int .i64 x8.1.at_]], 0⟩, ⟨24, 3, [.agg [.int .i64 x6.2.Cut, .int .i64 x6.2.Clear, .int .i64 x6.2.Delay]], 0⟩, ⟨26, 3, [.agg [.bool true, .int .i64 x8.2, .int .i64 0]], 0⟩])] rfl rfl (all1 (VRd.ntl (rd_pickT (congrArg PV.bool c19) rfl)) all0) ?_
            refine dops_rdW [(low, [⟨24, 3, [.agg [.int .i64 p1.Cut, .int .i64 p1.Clear, .int .i64 p1.Delay]], 0⟩, ⟨26, 3, [.agg [.bool p2.Over, .int .i64 p2.Since, .int .i64 p2.Last]], 0⟩, ⟨53, 2, [.agg [.vs 1 (List.map (PV.int .u8) x8.1.l), .int .i64 x8.1.at_]], 0⟩, ⟨24, 3, [.agg [.int .i64 x6.2.Cut, .int .i64 x6.2.Clear, .int .i64 x6.2.Delay]], 0⟩, ⟨26, 3, [.agg [.bool true, .int .i64 x8.2, .int .i64 0]], 0⟩])] rfl rfl (all1 (VRd.ntl (rd_mvB rfl)) all0) ?_
            refine dops_takeW [(low, [⟨24, 3, [.agg [.int .i64 p1.Cut, .int .i64 p1.Clear, .int .i64 p1.Delay]], 0⟩, ⟨26, 3, [.agg [.bool p2.Over, .int .i64 p2.Since, .int .i64 p2.Last]], 0⟩, ⟨53, 2, [.agg [.vs 1 (List.map (PV.int .u8) x8.1.l), .int .i64 x8.1.at_]], 0⟩, ⟨24, 3, [.agg [.int .i64 x6.2.Cut, .int .i64 x6.2.Clear, .int .i64 x6.2.Delay]], 0⟩, ⟨26, 3, [.agg [.bool true, .int .i64 x8.2, .int .i64 0]], 0⟩])] rfl rfl rfl (congrArg PV.bool c24) (all1 (nt_of (vef_callP rfl Try.call20 (F_law17_awake_ok h26 _))) all0) ?_
            refine dops_rdW [(low, [⟨24, 3, [.agg [.int .i64 p1.Cut, .int .i64 p1.Clear, .int .i64 p1.Delay]], 0⟩, ⟨26, 3, [.agg [.bool p2.Over, .int .i64 p2.Since, .int .i64 p2.Last]], 0⟩, ⟨53, 2, [.agg [.vs 1 (List.map (PV.int .u8) x8.1.l), .int .i64 x8.1.at_]], 0⟩, ⟨24, 3, [.agg [.int .i64 x6.2.Cut, .int .i64 x6.2.Clear, .int .i64 x6.2.Delay]], 0⟩, ⟨26, 3, [.agg [.bool true, .int .i64 x8.2, .int .i64 0]], 0⟩])] rfl rfl (all1 (VRd.ntl (rd_pickT (congrArg PV.bool c24) rfl)) all0) ?_
            refine dops_rdW [(low, [⟨24, 3, [.agg [.int .i64 p1.Cut, .int .i64 p1.Clear, .int .i64 p1.Delay]], 0⟩, ⟨26, 3, [.agg [.bool p2.Over, .int .i64 p2.Since, .int .i64 p2.Last]], 0⟩, ⟨53, 2, [.agg [.vs 1 (List.map (PV.int .u8) x8.1.l), .int .i64 x8.1.at_]], 0⟩, ⟨24, 3, [.agg [.int .i64 x6.2.Cut, .int .i64 x6.2.Clear, .int .i64 x6.2.Delay]], 0⟩, ⟨26, 3, [.agg [.bool true, .int .i64 x8.2, .int .i64 0]], 0⟩])] rfl rfl (all1 (VRd.ntl (rd_asB rfl)) all0) ?_
            refine dops_nil ?_
            refine vwp_ret ?_
            obtain rfl := Option.some.inj hF
            refine fnR ?_
            exact weak_pick rfl [] (by decide) ⟨rn_low rfl (.bool _), trivial⟩ trivial
          · have hF := bifF c24 hF
            refine vwp_drawn [[], [], [0, 1], [], [], [0, 1, 2, 3, 4], [0, 1, 2, 3, 4, 5], [0, 1, 2, 3, 4, 5, 6], [0, 1, 2, 3, 4, 5, 6, 7], [0, 1, 2, 3, 4, 5, 6, 7], [0, 1, 2, 3, 4, 5, 6, 7, 8, 9], [0, 1, 2, 3, 4, 5, 6, 7], [0, 1, 2, 3, 4, 5, 6, 7], [0, 1, 2, 3, 4, 5, 6, 7, 8, 9, 10, 11, 12], [0, 1, 2, 3, 4, 5, 6, 7, 8, 9, 10, 11, 12, 13], [0, 1, 2, 3, 4, 5, 6, 7, 8, 9, 10, 11, 12, 13, 14], [0, 1, 2, 3, 4, 5, 6, 7, 8, 9, 10, 11, 12, 13, 14, 15], [0, 1, 2, 3, 4, 5, 6, 7, 8, 9, 10, 11, 12, 13, 14, 15, 16], [0, 1, 2, 3, 4, 5, 6, 7, 8, 9, 10, 11, 12, 13, 14, 15, 16], [0, 1, 2, 3, 4, 5, 6, 7, 8, 9, 10, 11, 12, 13, 14, 15, 16, 17, 18], [0, 1, 2, 3, 4, 5, 6, 7, 8, 9, 10, 11, 12, 13, 14, 15, 16], [0, 1, 2, 3, 4, 5, 6, 7, 8, 9, 10, 11, 12, 13, 14, 15, 16], [0, 1, 2, 3, 4, 5, 6, 7, 8, 9, 10, 11, 12, 13, 14, 15, 16, 17, 18, 19, 20, 21], [0, 1, 2, 3, 4, 5, 6, 7, 8, 9, 10, 11, 12, 13, 14, 15, 16, 17, 18, 19, 20, 21, 22], [0, 1, 2, 3, 4, 5, 6, 7, 8, 9, 10, 11, 12, 13, 14, 15, 16, 17, 18, 19, 20, 21, 22, 23], [0, 1, 2, 3, 4, 5, 6, 7, 8, 9, 10, 11, 12, 13, 14, 15, 16, 17, 18, 19, 20, 21, 22, 23, 24], [0, 1, 2, 3, 4, 5, 6, 7, 8, 9, 10, 11, 12, 13, 14, 15, 16, 17, 18, 19, 20, 21, 22, 23, 24, 25], [0, 1, 2, 3, 4, 5, 6, 7, 8, 9, 10, 11, 12, 13, 14, 15, 16, 17, 18, 19, 20, 21, 22, 23, 24, 25, 26], [0, 1, 2, 3, 4, 5, 6, 7, 8, 9, 10, 11, 12, 13, 14, 15, 16, 17, 18, 19, 20, 21, 22, 23, 24, 25, 26, 27]] [false, false, false, false, false, false, false, false, false, false, false, false, false, false, false, false, false, false, false, false, false, false, false, false, false, false, false, false, false] [(low, [⟨24, 3, [.agg [.int .i64 p1.Cut, .int .i64 p1.Clear, .int .i64 p1.Delay]], 0⟩, ⟨26, 3, [.agg [.bool p2.Over, .int .i64 p2.Since, .int .i64 p2.Last]], 0⟩, ⟨53, 2, [.agg [.vs 1 (List.map (PV.int .u8) x8.1.l), .int .i64 x8.1.at_]], 0⟩, ⟨24, 3, [.agg [.int .i64 x6.2.Cut, .int .i64 x6.2.Clear, .int .i64 x6.2.Delay]], 0⟩, ⟨26, 3, [.agg [.bool true, .int .i64 x8.2, .int .i64 0]], 0⟩])] mixed (by kernel_rfl) rfl (lenAll (all1 rfl all0)) rfl (low, [⟨24, 3, [.agg [.int .i64 p1.Cut, .int .i64 p1.Clear, .int .i64 p1.Delay]], 0⟩, ⟨26, 3, [.agg [.bool p2.Over, .int .i64 p2.Since, .int .i64 p2.Last]], 0⟩, ⟨53, 2, [.agg [.vs 1 (List.map (PV.int .u8) x8.1.l), .int .i64 x8.1.at_]], 0⟩, ⟨24, 3, [.agg [.int .i64 x6.2.Cut, .int .i64 x6.2.Clear, .int .i64 x6.2.Delay]], 0⟩, ⟨26, 3, [.agg [.bool true, .int .i64 x8.2, .int .i64 0]], 0⟩]) rfl rfl ?_
            refine dops_rdW [(low, [⟨24, 3, [.agg [.int .i64 p1.Cut, .int .i64 p1.Clear, .int .i64 p1.Delay]], 0⟩, ⟨26, 3, [.agg [.bool p2.Over, .int .i64 p2.Since, .int .i64 p2.Last]], 0⟩, ⟨53, 2, [.agg [.vs 1 (List.map (PV.int .u8) x8.1.l), .int .i64 x8.1.at_]], 0⟩, ⟨24, 3, [.agg [.int .i64 x6.2.Cut, .int .i64 x6.2.Clear, .int .i64 x6.2.Delay]], 0⟩, ⟨26, 3, [.agg [.bool true, .int .i64 x8.2, .int .i64 0]], 0⟩])] rfl rfl (all1 (VRd.ntl (rd_loadN (ds := [.int .i64 x6.2.Cut, .int .i64 x6.2.Clear, .int .i64 x6.2.Delay]) rfl (getO_N rfl rfl) rfl ta_24 ts_24 rfl rfl rfl)) all0) ?_
            refine dops_rdW [(low, [⟨24, 3, [.agg [.int .i64 p1.Cut, .int .i64 p1.Clear, .int .i64 p1.Delay]], 0⟩, ⟨26, 3, [.agg [.bool p2.Over, .int .i64 p2.Since, .int .i64 p2.Last]], 0⟩, ⟨53, 2, [.agg [.vs 1 (List.map (PV.int .u8) x8.1.l), .int .i64 x8.1.at_]], 0⟩, ⟨24, 3, [.agg [.int .i64 x6.2.Cut, .int .i64 x6.2.Clear, .int .i64 x6.2.Delay]], 0⟩, ⟨26, 3, [.agg [.bool true, .int .i64 x8.2, .int .i64 0]], 0⟩])] rfl rfl (all1 (VRd.ntl (rd_loadN (ds := [.bool p2.Over, .int .i64 p2.Since, .int .i64 p2.Last]) rfl (getO_N rfl rfl) rfl ta_26 ts_26 rfl rfl rfl)) all0) ?_
            refine dops_rdW [(low, [⟨24, 3, [.agg [.int .i64 p1.Cut, .int .i64 p1.Clear, .int .i64 p1.Delay]], 0⟩, ⟨26, 3, [.agg [.bool p2.Over, .int .i64 p2.Since, .int .i64 p2.Last]], 0⟩, ⟨53, 2, [.agg [.vs 1 (List.map (PV.int .u8) x8.1.l), .int .i64 x8.1.at_]], 0⟩, ⟨24, 3, [.agg [.int .i64 x6.2.Cut, .int .i64 x6.2.Clear, .int .i64 x6.2.Delay]], 0⟩, ⟨26, 3, [.agg [.bool true, .int .i64 x8.2, .int .i64 0]], 0⟩])] rfl rfl (all1 (nt_of (vef_callP rfl Try.call21 (F_level_Next_ok h11 _))) all0) ?_
            refine dops_rdW [(low, [⟨24, 3, [.agg [.int .i64 p1.Cut, .int .i64 p1.Clear, .int .i64 p1.Delay]], 0⟩, ⟨26, 3, [.agg [.bool p2.Over, .int .i64 p2.Since, .int .i64 p2.Last]], 0⟩, ⟨53, 2, [.agg [.vs 1 (List.map (PV.int .u8) x8.1.l), .int .i64 x8.1.at_]], 0⟩, ⟨24, 3, [.agg [.int .i64 x6.2.Cut, .int .i64 x6.2.Clear, .int .i64 x6.2.Delay]], 0⟩, ⟨26, 3, [.agg [.bool true, .int .i64 x8.2, .int .i64 0]], 0⟩])] rfl rfl (all1 (VRd.ntl (rd_loadN (ds := [.int .i64 x6.2.Cut, .int .i64 x6.2.Clear, .int .i64 x6.2.Delay]) rfl (getO_N rfl rfl) rfl ta_24 ts_24 rfl rfl rfl)) all0) ?_
            refine dops_rdW [(low, [⟨24, 3, [.agg [.int .i64 p1.Cut, .int .i64 p1.Clear, .int .i64 p1.Delay]], 0⟩, ⟨26, 3, [.agg [.bool p2.Over, .int .i64 p2.Since, .int .i64 p2.Last]], 0⟩, ⟨53, 2, [.agg [.vs 1 (List.map (PV.int .u8) x8.1.l), .int .i64 x8.1.at_]], 0⟩, ⟨24, 3, [.agg [.int .i64 x6.2.Cut, .int .i64 x6.2.Clear, .int .i64 x6.2.Delay]], 0⟩, ⟨26, 3, [.agg [.bool true, .int .i64 x8.2, .int .i64 0]], 0⟩])] rfl rfl (all1 (VRd.ntl (rd_loadN (ds := [.bool p2.Over, .int .i64 p2.Since, .int .i64 p2.Last]) rfl (getO_N rfl rfl) rfl ta_26 ts_26 rfl rfl rfl)) all0) ?_
            refine dops_rdW [(low, [⟨24, 3, [.agg [.int .i64 p1.Cut, .int .i64 p1.Clear, .int .i64 p1.Delay]], 0⟩, ⟨26, 3, [.agg [.bool p2.Over, .int .i64 p2.Since, .int .i64 p2.Last]], 0⟩, ⟨53, 2, [.agg [.vs 1 (List.map (PV.int .u8) x8.1.l), .int .i64 x8.1.at_]], 0⟩, ⟨24, 3, [.agg [.int .i64 x6.2.Cut, .int .i64 x6.2.Clear, .int .i64 x6.2.Delay]], 0⟩, ⟨26, 3, [.agg [.bool true, .int .i64 x8.2, .int .i64 0]], 0⟩])] rfl rfl (all1 (nt_of (vef_callP rfl Try.call22 (F_ref17_Next_ok h13 _))) all0) ?_
            refine dops_rdW [(low, [⟨24, 3, [.agg [.int .i64 p1.Cut, .int .i64 p1.Clear, .int .i64 p1.Delay]], 0⟩, ⟨26, 3, [.agg [.bool p2.Over, .int .i64 p2.Since, .int .i64 p2.Last]], 0⟩, ⟨53, 2, [.agg [.vs 1 (List.map (PV.int .u8) x8.1.l), .int .i64 x8.1.at_]], 0⟩, ⟨24, 3, [.agg [.int .i64 x6.2.Cut, .int .i64 x6.2.Clear, .int .i64 x6.2.Delay]], 0⟩, ⟨26, 3, [.agg [.bool true, .int .i64 x8.2, .int .i64 0]], 0⟩])] rfl rfl (all1 (VRd.ntl (rd_eql rfl rfl)) all0) ?_
            refine dops_rdW [(low, [⟨24, 3, [.agg [.int .i64 p1.Cut, .int .i64 p1.Clear, .int .i64 p1.Delay]], 0⟩, ⟨26, 3, [.agg [.bool p2.Over, .int .i64 p2.Since, .int .i64 p2.Last]], 0⟩, ⟨53, 2, [.agg [.vs 1 (List.map (PV.int .u8) x8.1.l), .int .i64 x8.1.at_]], 0⟩, ⟨24, 3, [.agg [.int .i64 x6.2.Cut, .int .i64 x6.2.Clear, .int .i64 x6.2.Delay]], 0⟩, ⟨26, 3, [.agg [.bool true, .int .i64 x8.2, .int .i64 0]], 0⟩])] rfl rfl (all1 (VRd.ntl (rd_mvB rfl)) all0) ?_
            refine dops_takeW [(low, [⟨24, 3, [.agg [.int .i64 p1.Cut, .int .i64 p1.Clear, .int .i64 p1.Delay]], 0⟩, ⟨26, 3, [.agg [.bool p2.Over, .int .i64 p2.Since, .int .i64 p2.Last]], 0⟩, ⟨53, 2, [.agg [.vs 1 (List.map (PV.int .u8) x8.1.l), .int .i64 x8.1.at_]], 0⟩, ⟨24, 3, [.agg [.int .i64 x6.2.Cut, .int .i64 x6.2.Clear, .int .i64 x6.2.Delay]], 0⟩, ⟨26, 3, [.agg [.bool true, .int .i64 x8.2, .int .i64 0]], 0⟩])] rfl rfl rfl (congrArg PV.bool c14) (all1 (VRd.ntl (rd_loadN (ds := [.int .i64 p1.Cut, .int .i64 p1.Clear, .int .i64 p1.Delay]) rfl (getO_N rfl rfl) rfl ta_24 ts_24 rfl rfl rfl)) all0) ?_
            refine dops_takeW [(low, [⟨24, 3, [.agg [.int .i64 p1.Cut, .int .i64 p1.Clear, .int .i64 p1.Delay]], 0⟩, ⟨26, 3, [.agg [.bool p2.Over, .int .i64 p2.Since, .int .i64 p2.Last]], 0⟩, ⟨53, 2, [.agg [.vs 1 (List.map (PV.int .u8) x8.1.l), .int .i64 x8.1.at_]], 0⟩, ⟨24, 3, [.agg [.int .i64 x6.2.Cut, .int .i64 x6.2.Clear, .int .i64 x6.2.Delay]], 0⟩, ⟨26, 3, [.agg [.bool true, .int .i64 x8.2, .int .i64 0]], 0⟩])] rfl rfl rfl (congrArg PV.bool c14) (all1 (VRd.ntl (rd_loadN (ds := [.bool p2.Over, .int .i64 p2.Since, .int .i64 p2.Last]) rfl (getO_N rfl rfl) rfl ta_26 ts_26 rfl rfl rfl)) all0) ?_
            refine dops_takeW [(low, [⟨24, 3, [.agg [.int .i64 p1.Cut, .int .i64 p1.Clear, .int .i64 p1.Delay]], 0⟩, ⟨26, 3, [.agg [.bool p2.Over, .int .i64 p2.Since, .int .i64 p2.Last]], 0⟩, ⟨53, 2, [.agg [.vs 1 (List.map (PV.int .u8) x8.1.l), .int .i64 x8.1.at_]], 0⟩, ⟨24, 3, [.agg [.int .i64 x6.2.Cut, .int .i64 x6.2.Clear, .int .i64 x6.2.Delay]], 0⟩, ⟨26, 3, [.agg [.bool true, .int .i64 x8.2, .int .i64 0]], 0⟩])] rfl rfl rfl (congrArg PV.bool c14) (all1 (nt_of (vef_callP rfl Try.call21 (F_level_Next_ok h16 _))) all0) ?_
            refine dops_takeW [(low, [⟨24, 3, [.agg [.int .i64 p1.Cut, .int .i64 p1.Clear, .int .i64 p1.Delay]], 0⟩, ⟨26, 3, [.agg [.bool p2.Over, .int .i64 p2.Since, .int .i64 p2.Last]], 0⟩, ⟨53, 2, [.agg [.vs 1 (List.map (PV.int .u8) x8.1.l), .int .i64 x8.1.at_]], 0⟩, ⟨24, 3, [.agg [.int .i64 x6.2.Cut, .int .i64 x6.2.Clear, .int .i64 x6.2.Delay]], 0⟩, ⟨26, 3, [.agg [.bool true, .int .i64 x8.2, .int .i64 0]], 0⟩])] rfl rfl rfl (congrArg PV.bool c14) (all1 (VRd.ntl (rd_loadN (ds := [.int .i64 p1.Cut, .int .i64 p1.Clear, .int .i64 p1.Delay]) rfl (getO_N rfl rfl) rfl ta_24 ts_24 rfl rfl rfl)) all0) ?_
            refine dops_takeW [(low, [⟨24, 3, [.agg [.int .i64 p1.Cut, .int .i64 p1.Clear, .int .i64 p1.Delay]], 0⟩, ⟨26, 3, [.agg [.bool p2.Over, .int .i64 p2.Since, .int .i64 p2.Last]], 0⟩, ⟨53, 2, [.agg [.vs 1 (List.map (PV.int .u8) x8.1.l), .int .i64 x8.1.at_]], 0⟩, ⟨24, 3, [.agg [.int .i64 x6.2.Cut, .int .i64 x6.2.Clear, .int .i64 x6.2.Delay]], 0⟩, ⟨26, 3, [.agg [.bool true, .int .i64 x8.2, .int .i64 0]], 0⟩])] rfl rfl rfl (congrArg PV.bool c14) (all1 (VRd.ntl (rd_loadN (ds := [.bool p2.Over, .int .i64 p2.Since, .int .i64 p2.Last]) rfl (getO_N rfl rfl) rfl ta_26 ts_26 rfl rfl rfl)) all0) ?_
            refine dops_takeW [(low, [⟨24, 3, [.agg [.int .i64 p1.Cut, .int .i64 p1.Clear, .int .i64 p1.Delay]], 0⟩, ⟨26, 3, [.agg [.bool p2.Over, .int .i64 p2.Since, .int .i64 p2.Last]], 0⟩, ⟨53, 2, [.agg [.vs 1 (List.map (PV.int .u8) x8.1.l), .int .i64 x8.1.at_]], 0⟩, ⟨24, 3, [.agg [.int .i64 x6.2.Cut, .int .i64 x6.2.Clear, .int .i64 x6.2.Delay]], 0⟩, ⟨26, 3, [.agg [.bool true, .int .i64 x8.2, .int .i64 0]], 0⟩])] rfl rfl rfl (congrArg PV.bool c14) (all1 (nt_of (vef_callP rfl Try.call22 (F_ref17_Next_ok h18 _))) all0) ?_
            refine dops_takeW [(low, [⟨24, 3, [.agg [.int .i64 p1.Cut, .int .i64 p1.Clear, .int .i64 p1.Delay]], 0⟩, ⟨26, 3, [.agg [.bool p2.Over, .int .i64 p2.Since, .int .i64 p2.Last]], 0⟩, ⟨53, 2, [.agg [.vs 1 (List.map (PV.int .u8) x8.1.l), .int .i64 x8.1.at_]], 0⟩, ⟨24, 3, [.agg [.int .i64 x6.2.Cut, .int .i64 x6.2.Clear, .int .i64 x6.2.Delay]], 0⟩, ⟨26, 3, [.agg [.bool true, .int .i64 x8.2, .int .i64 0]], 0⟩])] rfl rfl rfl (congrArg PV.bool c14) (all1 (VRd.ntl (rd_eql rfl rfl)) all0) ?_
            refine dops_rdW [(low, [⟨24, 3, [.agg [.int .i64 p1.Cut, .int .i64 p1.Clear, .int .i64 p1.Delay]], 0⟩, ⟨26, 3, [.agg [.bool p2.Over, .int .i64 p2.Since, .int .i64 p2.Last]], 0⟩, ⟨53, 2, [.agg [.vs 1 (List.map (PV.int .u8) x8.1.l), .int .i64 x8.1.at_]], 0⟩, ⟨24, 3, [.agg [.int .i64 x6.2.Cut, .int .i64 x6.2.Clear, .int .i64 x6.2.Delay]], 0⟩, ⟨26, 3, [.agg [.bool true, .int .i64 x8.2, .int .i64 0]], 0⟩])] rfl rfl (all1 (VRd.ntl (rd_pickT (congrArg PV.bool c14) rfl)) all0) ?_
            refine dops_rdW [(low, [⟨24, 3, [.agg [.int .i64 p1.Cut, .int .i64 p1.Clear, .int .i64 p1.Delay]], 0⟩, ⟨26, 3, [.agg [.bool p2.Over, .int .i64 p2.Since, .int .i64 p2.Last]], 0⟩, ⟨53, 2, [.agg [.vs 1 (List.map (PV.int .u8) x8.1.l), .int .i64 x8.1.at_]], 0⟩, ⟨24, 3, [.agg [.int .i64 x6.2.Cut, .int .i64 x6.2.Clear, .int .i64 x6.2.Delay]], 0⟩, ⟨26, 3, [.agg [.bool true, .int .i64 x8.2, .int .i64 0]], 0⟩])] rfl rfl (all1 (VRd.ntl (rd_mvB rfl)) all0) ?_
            refine dops_takeW [(low, [⟨24, 3, [.agg [.int .i64 p1.Cut, .int .i64 p1.Clear, .int .i64 p1.Delay]], 0⟩, ⟨26, 3, [.agg [.bool p2.Over, .int .i64 p2.Since, .int .i64 p2.Last]], 0⟩, ⟨53, 2, [.agg [.vs 1 (List.map (PV.int .u8) x8.1.l), .int .i64 x8.1.at_]], 0⟩, ⟨24, 3, [.agg [.int .i64 x6.2.Cut, .int .i64 x6.2.Clear, .int .i64 x6.2.Delay]], 0⟩, ⟨26, 3, [.agg [.bool true, .int .i64 x8.2, .int .i64 0]], 0⟩])] rfl rfl rfl (congrArg PV.bool c19) (all1 (VRd.ntl (rd_loadN (ds := [.int .i64 x6.2.Cut, .int .i64 x6.2.Clear, .int .i64 x6.2.Delay]) rfl (getO_N rfl rfl) rfl ta_24 ts_24 rfl rfl rfl)) all0) ?_
            refine dops_takeW [(low, [⟨24, 3, [.agg [.int .i64 p1.Cut, .int .i64 p1.Clear, .int .i64 p1.Delay]], 0⟩, ⟨26, 3, [.agg [.bool p2.Over, .int .i64 p2.Since, .int .i64 p2.Last]], 0⟩, ⟨53, 2, [.agg [.vs 1 (List.map (PV.int .u8) x8.1.l), .int .i64 x8.1.at_]], 0⟩, ⟨24, 3, [.agg [.int .i64 x6.2.Cut, .int .i64 x6.2.Clear, .int .i64 x6.2.Delay]], 0⟩, ⟨26, 3, [.agg [.bool true, .int .i64 x8.2, .int .i64 0]], 0⟩])] rfl rfl rfl (congrArg PV.bool c19) (all1 (VRd.ntl (rd_loadN (ds := [.bool true, .int .i64 x8.2, .int .i64 0]) rfl (getO_N rfl rfl) rfl ta_26 ts_26 rfl rfl rfl)) all0) ?_
            refine dops_takeW [(low, [⟨24, 3, [.agg [.int .i64 p1.Cut, .int .i64 p1.Clear, .int .i64 p1.Delay]], 0⟩, ⟨26, 3, [.agg [.bool p2.Over, .int .i64 p2.Since, .int .i64 p2.Last]], 0⟩, ⟨53, 2, [.agg [.vs 1 (List.map (PV.int .u8) x8.1.l), .int .i64 x8.1.at_]], 0⟩, ⟨24, 3, [.agg [.int .i64 x6.2.Cut, .int .i64 x6.2.Clear, .int .i64 x6.2.Delay]], 0⟩, ⟨26, 3, [.agg [.bool true, .int .i64 x8.2, .int .i64 0]], 0⟩])] rfl rfl rfl (congrArg PV.bool c19) (all1 (nt_of (vef_callP rfl Try.call21 (F_level_Next_ok h21 _))) all0) ?_
            refine dops_takeW [(low, [⟨24, 3, [.agg [.int .i64 p1.Cut, .int .i64 p1.Clear, .int .i64 p1.Delay]], 0⟩, ⟨26, 3, [.agg [.bool p2.Over, .int .i64 p2.Since, .int .i64 p2.Last]], 0⟩, ⟨53, 2, [.agg [.vs 1 (List.map (PV.int .u8) x8.1.l), .int .i64 x8.1.at_]], 0⟩, ⟨24, 3, [.agg [.int .i64 x6.2.Cut, .int .i64 x6.2.Clear, .int .i64 x6.2.Delay]], 0⟩, ⟨26, 3, [.agg [.bool true, .int .i64 x8.2, .int .i64 0]], 0⟩])] rfl rfl rfl (congrArg PV.bool c19) (all1 (VRd.ntl (rd_loadN (ds := [.int .i64 x6.2.Cut, .int .i64 x6.2.Clear, .int .i64 x6.2.Delay]) rfl (getO_N rfl rfl) rfl ta_24 ts_24 rfl rfl rfl)) all0) ?_
            refine dops_takeW [(low, [⟨24, 3, [.agg [.int .i64 p1.Cut, .int .i64 p1.Clear, .int .i64 p1.Delay]], 0⟩, ⟨26, 3, [.agg [.bool p2.Over, .int .i64 p2.Since, .int .i64 p2.Last]], 0⟩, ⟨53, 2, [.agg [.vs 1 (List.map (PV.int .u8) x8.1.l), .int .i64 x8.1.at_]], 0⟩, ⟨24, 3, [.agg [.int .i64 x6.2.Cut, .int .i64 x6.2.Clear, .int .i64 x6.2.Delay]], 0⟩, ⟨26, 3, [.agg [.bool true, .int .i64 x8.2, .int .i64 0]], 0⟩])] rfl rfl rfl (congrArg PV.bool c19) (all1 (VRd.ntl (rd_loadN (ds := [.bool true, .int .i64 x8.2, .int .i64 0]) rfl (getO_N rfl rfl) rfl ta_26 ts_26 rfl rfl rfl)) all0) ?_
            refine dops_takeW [(low, [⟨24, 3, [.agg [.int .i64 p1.Cut, .int .i64 p1.Clear, .int .i64 p1.Delay]], 0⟩, ⟨26, 3, [.agg [.bool p2.Over, .int .i64 p2.Since, .int .i64 p2.Last]], 0⟩, ⟨53, 2, [.agg [.vs 1 (List.map (PV.int .u8) x8.1.l), .int .i64 x8.1.at_]], 0⟩, ⟨24, 3, [.agg [.int .i64 x6.2.Cut, .int .i64 x6.2.Clear, .int .i64 x6.2.Delay]], 0⟩, ⟨26, 3, [.agg [.bool true, .int .i64 x8.2, .int .i64 0]], 0⟩])] rfl rfl rfl (congrArg PV.bool c19) (all1 (nt_of (vef_callP rfl Try.call22 (F_ref17_Next_ok h23 _))) all0) ?_
            refine dops_takeW [(low, [⟨24, 3, [.agg [.int .i64 p1.Cut, .int .i64 p1.Clear, .int .i64 p1.Delay]], 0⟩, ⟨26, 3, [.agg [.bool p2.Over, .int .i64 p2.Since, .int .i64 p2.Last]], 0⟩, ⟨53, 2, [.agg [.vs 1 (List.map (PV.int .u8) x8.1.l), .int .i64 x8.1.at_]], 0⟩, ⟨24, 3, [.agg [.int .i64 x6.2.Cut, .int .i64 x6.2.Clear, .int .i64 x6.2.Delay]], 0⟩, ⟨26, 3, [.agg [.bool true, .int .i64 x8.2, .int .i64 0]], 0⟩])] rfl rfl rfl (congrArg PV.bool c19) (all1 (VRd.ntl (rd_eql rfl rfl)) all0) ?_
            refine dops_rdW [(low, [⟨24, 3, [.agg [.int .i64 p1.Cut, .int .i64 p1.Clear, .int .i64 p1.Delay]], 0⟩, ⟨26, 3, [.agg [.bool p2.Over, .int .i64 p2.Since, .int .i64 p2.Last]], 0⟩, ⟨53, 2, [.agg [.vs 1 (List.map (PV.int .u8) x8.1.l), .int .i64 x8.1.at_]], 0⟩, ⟨24, 3, [.agg [.int .i64 x6.2.Cut, .int .i64 x6.2.Clear, .int .i64 x6.2.Delay]], 0⟩, ⟨26, 3, [.agg [.bool true, .int .i64 x8.2, .int .i64 0]], 0⟩])] rfl rfl (all1 (VRd.ntl (rd_pickT (congrArg PV.bool c19) rfl)) all0) ?_
            refine dops_rdW [(low, [⟨24, 3, [.agg [.int .i64 p1.Cut, .int .i64 p1.Clear, .int .i64 p1.Delay]], 0⟩, ⟨26, 3, [.agg [.bool p2.Over, .int .i64 p2.Since, .int .i64 p2.Last]], 0⟩, ⟨53, 2, [.agg [.vs 1 (List.map (PV.int .u8) x8.1.l), .int .i64 x8.1.at_]], 0⟩, ⟨24, 3, [.agg [.int .i64 x6.2.Cut, .int .i64 x6.2.Clear, .int .i64 x6.2.Delay]], 0⟩, ⟨26, 3, [.agg [.bool true, .int .i64 x8.2, .int .i64 0]], 0⟩])] rfl rfl (all1 (VRd.ntl (rd_mvB rfl)) all0) ?_
            refine dops_skip rfl rfl rfl (neF c24) ?_
            refine dops_rdW [(low, [⟨24, 3, [.agg [.int .i64 p1.Cut, .int .i64 p1.Clear, .int .i64 p1.Delay]], 0⟩, ⟨26, 3, [.agg [.bool p2.Over, .int .i64 p2.Since, .int .i64 p2.Last]], 0⟩, ⟨53, 2, [.agg [.vs 1 (List.map (PV.int .u8) x8.1.l), .int .i64 x8.1.at_]], 0⟩, ⟨24, 3, [.agg [.int .i64 x6.2.Cut, .int .i64 x6.2.Clear, .int .i64 x6.2.Delay]], 0⟩, ⟨26, 3, [.agg [.bool true, .int .i64 x8.2, .int .i64 0]], 0⟩])] rfl rfl (all1 (VRd.ntl (rd_pickF (congrArg PV.bool c24) rfl)) all0) ?_
            refine dops_rdW [(low, [⟨24, 3, [.agg [.int .i64 p1.Cut, .int .i64 p1.Clear, .int .i64 p1.Delay]], 0⟩, ⟨26, 3, [.agg [.bool p2.Over, .int .i64 p2.Since, .int .i64 p2.Last]], 0⟩, ⟨53, 2, [.agg [.vs 1 (List.map (PV.int .u8) x8.1.l), .int .i64 x8.1.at_]], 0⟩, ⟨24, 3, [.agg [.int .i64 x6.2.Cut, .int .i64 x6.2.Clear, .int .i64 x6.2.Delay]], 0⟩, ⟨26, 3, [.agg [.bool true, .int .i64 x8.2, .int .i64 0]], 0⟩])] rfl rfl (all1 (VRd.ntl (rd_asB rfl)) all0) ?_
            refine dops_nil ?_
            refine vwp_ret ?_
            obtain rfl := Option.some.inj hF
            refine fnR ?_
            exact weak_pick rfl [] (by decide) ⟨rn_low rfl (.bool _), trivial⟩ trivial
        · have hF := bifF c19 hF
          refine vwp_drawn [[], [], [0, 1], [], [], [0, 1, 2, 3, 4], [0, 1, 2, 3, 4, 5], [0, 1, 2, 3, 4, 5, 6], [0, 1, 2, 3, 4, 5, 6, 7], [0, 1, 2, 3, 4, 5, 6, 7], [0, 1, 2, 3, 4, 5, 6, 7, 8, 9], [0, 1, 2, 3, 4, 5, 6, 7], [0, 1, 2, 3, 4, 5, 6, 7], [0, 1, 2, 3, 4, 5, 6, 7, 8, 9, 10, 11, 12], [0, 1, 2, 3, 4, 5, 6, 7, 8, 9, 10, 11, 12, 13], [0, 1, 2, 3, 4, 5, 6, 7, 8, 9, 10, 11, 12, 13, 14], [0, 1, 2, 3, 4, 5, 6, 7, 8, 9, 10, 11, 12, 13, 14, 15], [0, 1, 2, 3, 4, 5, 6, 7, 8, 9, 10, 11, 12, 13, 14, 15, 16], [0, 1, 2, 3, 4, 5, 6, 7, 8, 9, 10, 11, 12, 13, 14, 15, 16], [0, 1, 2, 3, 4, 5, 6, 7, 8, 9, 10, 11, 12, 13, 14, 15, 16, 17, 18], [0, 1, 2, 3, 4, 5, 6, 7, 8, 9, 10, 11, 12, 13, 14, 15, 16], [0, 1, 2, 3, 4, 5, 6, 7, 8, 9, 10, 11, 12, 13, 14, 15, 16], [0, 1, 2, 3, 4, 5, 6, 7, 8, 9, 10, 11, 12, 13, 14, 15, 16, 17, 18, 19, 20, 21], [0, 1, 2, 3, 4, 5, 6, 7, 8, 9, 10, 11, 12, 13, 14, 15, 16, 17, 18, 19, 20, 21, 22], [0, 1, 2, 3, 4, 5, 6, 7, 8, 9, 10, 11, 12, 13, 14, 15, 16, 17, 18, 19, 20, 21, 22, 23], [0, 1, 2, 3, 4, 5, 6, 7, 8, 9, 10, 11, 12, 13, 14, 15, 16, 17, 18, 19, 20, 21, 22, 23, 24], [0, 1, 2, 3, 4, 5, 6, 7, 8, 9, 10, 11, 12, 13, 14, 15, 16, 17, 18, 19, 20, 21, 22, 23, 24, 25], [0, 1, 2, 3, 4, 5, 6, 7, 8, 9, 10, 11, 12, 13, 14, 15, 16, 17, 18, 19, 20, 21, 22, 23, 24, 25, 26], [0, 1, 2, 3, 4, 5, 6, 7, 8, 9, 10, 11, 12, 13, 14, 15, 16, 17, 18, 19, 20, 21, 22, 23, 24, 25, 26, 27]] [false, false, false, false, false, false, false, false, false, false, false, false, false, false, false, false, false, false, false, false, false, false, false, false, false, false, false, false, false] [(low, [⟨24, 3, [.agg [.int .i64 p1.Cut, .int .i64 p1.Clear, .int .i64 p1.Delay]], 0⟩, ⟨26, 3, [.agg [.bool p2.Over, .int .i64 p2.Since, .int .i64 p2.Last]], 0⟩, ⟨53, 2, [.agg [.vs 1 (List.map (PV.int .u8) x8.1.l), .int .i64 x8.1.at_]], 0⟩, ⟨24, 3, [.agg [.int .i64 x6.2.Cut, .int .i64 x6.2.Clear, .int .i64 x6.2.Delay]], 0⟩, ⟨26, 3, [.agg [.bool true, .int .i64 x8.2, .int .i64 0]], 0⟩])] mixed (by kernel_rfl) rfl (lenAll (all1 rfl all0)) rfl (low, [⟨24, 3, [.agg [.int .i64 p1.Cut, .int .i64 p1.Clear, .int .i64 p1.Delay]], 0⟩, ⟨26, 3, [.agg [.bool p2.Over, .int .i64 p2.Since, .int .i64 p2.Last]], 0⟩, ⟨53, 2, [.agg [.vs 1 (List.map (PV.int .u8) x8.1.l), .int .i64 x8.1.at_]], 0⟩, ⟨24, 3, [.agg [.int .i64 x6.2.Cut, .int .i64 x6.2.Clear, .int .i64 x6.2.Delay]], 0⟩, ⟨26, 3, [.agg [.bool true, .int .i64 x8.2, .int .i64 0]], 0⟩]) rfl rfl ?_
          refine dops_rdW [(low, [⟨24, 3, [.agg [.int .i64 p1.Cut, .int .i64 p1.Clear, .int .i64 p1.Delay]], 0⟩, ⟨26, 3, [.agg [.bool p2.Over, .int .i64 p2.Since, .int .i64 p2.Last]], 0⟩, ⟨53, 2, [.agg [.vs 1 (List.map (PV.int .u8) x8.1.l), .int .i64 x8.1.at_]], 0⟩, ⟨24, 3, [.agg [.int .i64 x6.2.Cut, .int .i64 x6.2.Clear, .int .i64 x6.2.Delay]], 0⟩, ⟨26, 3, [.agg [.bool true, .int .i64 x8.2, .int .i64 0]], 0⟩])] rfl rfl (all1 (VRd.ntl (rd_loadN (ds := [.int .i64 x6.2.Cut, .int .i64 x6.2.Clear, .int .i64 x6.2.Delay]) rfl (getO_N rfl rfl) rfl ta_24 ts_24 rfl rfl rfl)) all0) ?_
          refine dops_rdW [(low, [⟨24, 3, [.agg [.int .i64 p1.Cut, .int .i64 p1.Clear, .int .i64 p1.Delay]], 0⟩, ⟨26, 3, [.agg [.bool p2.Over, .int .i64 p2.Since, .int .i64 p2.Last]], 0⟩, ⟨53, 2, [.agg [.vs 1 (List.map (PV.int .u8) x8.1.l), .int .i64 x8.1.at_]], 0⟩, ⟨24, 3, [.agg [.int .i64 x6.2.Cut, .int .i64 x6.2.Clear, .int .i64 x6.2.Delay]], 0⟩, ⟨26, 3, [.agg [.bool true, .int .i64 x8.2, .int .i64 0]], 0⟩])] rfl rfl (all1 (VRd.ntl (rd_loadN (ds := [.bool p2.Over, .int .i64 p2.Since, .int .i64 p2.Last]) rfl (getO_N rfl rfl) rfl ta_26 ts_26 rfl rfl rfl)) all0) ?_
          refine dops_rdW [(low, [⟨24, 3, [.agg [.int .i64 p1.Cut, .int .i64 p1.Clear, .int .i64 p1.Delay]], 0⟩, ⟨26, 3, [.agg [.bool p2.Over, .int .i64 p2.Since, .int .i64 p2.Last]], 0⟩, ⟨53, 2, [.agg [.vs 1 (List.map (PV.int .u8) x8.1.l), .int .i64 x8.1.at_]], 0⟩, ⟨24, 3, [.agg [.int .i64 x6.2.Cut, .int .i64 x6.2.Clear, .int .i64 x6.2.Delay]], 0⟩, ⟨26, 3, [.agg [.bool true, .int .i64 x8.2, .int .i64 0]], 0⟩])] rfl rfl (all1 (nt_of (vef_callP rfl Try.call21 (F_level_Next_ok h11 _))) all0) ?_
          refine dops_rdW [(low, [⟨24, 3, [.agg [.int .i64 p1.Cut, .int .i64 p1.Clear, .int .i64 p1.Delay]], 0⟩, ⟨26, 3, [.agg [.bool p2.Over, .int .i64 p2.Since, .int .i64 p2.Last]], 0⟩, ⟨53, 2, [.agg [.vs 1 (List.map (PV.int .u8) x8.1.l), .int .i64 x8.1.at_]], 0⟩, ⟨24, 3, [.agg [.int .i64 x6.2.Cut, .int .i64 x6.2.Clear, .int .i64 x6.2.Delay]], 0⟩, ⟨26, 3, [.agg [.bool true, .int .i64 x8.2, .int .i64 0]], 0⟩])] rfl rfl (all1 (VRd.ntl (rd_loadN (ds := [.int .i64 x6.2.Cut, .int .i64 x6.2.Clear, .int .i64 x6.2.Delay]) rfl (getO_N rfl rfl) rfl ta_24 ts_24 rfl rfl rfl)) all0) ?_
          refine dops_rdW [(low, [⟨24, 3, [.agg [.int .i64 p1.Cut, .int .i64 p1.Clear, .int .i64 p1.Delay]], 0⟩, ⟨26, 3, [.agg [.bool p2.Over, .int .i64 p2.Since, .int .i64 p2.Last]], 0⟩, ⟨53, 2, [.agg [.vs 1 (List.map (PV.int .u8) x8.1.l), .int .i64 x8.1.at_]], 0⟩, ⟨24, 3, [.agg [.int .i64 x6.2.Cut, .int .i64 x6.2.Clear, .int .i64 x6.2.Delay]], 0⟩, ⟨26, 3, [.agg [.bool true, .int .i64 x8.2, .int .i64 0]], 0⟩])] rfl rfl (all1 (VRd.ntl (rd_loadN (ds := [.bool p2.Over, .int .i64 p2.Since, .int .i64 p2.Last]) rfl (getO_N rfl rfl) rfl ta_26 ts_26 rfl rfl rfl)) all0) ?_
          refine dops_rdW [(low, [⟨24, 3, [.agg [.int .i64 p1.Cut, .int .i64 p1.Clear, .int .i64 p1.Delay]], 0⟩, ⟨26, 3, [.agg [.bool p2.Over, .int .i64 p2.Since, .int .i64 p2.Last]], 0⟩, ⟨53, 2, [.agg [.vs 1 (List.map (PV.int .u8) x8.1.l), .int .i64 x8.1.at_]], 0⟩, ⟨24, 3, [.agg [.int .i64 x6.2.Cut, .int .i64 x6.2.Clear, .int .i64 x6.2.Delay]], 0⟩, ⟨26, 3, [.agg [.bool true, .int .i64 x8.2, .int .i64 0]], 0⟩])] rfl rfl (all1 (nt_of (vef_callP rfl Try.call22 (F_ref17_Next_ok h13 _))) all0) ?_
          refine dops_rdW [(low, [⟨24, 3, [.agg [.int .i64 p1.Cut, .int .i64 p1.Clear, .int .i64 p1.Delay]], 0⟩, ⟨26, 3, [.agg [.bool p2.Over, .int .i64 p2.Since, .int .i64 p2.Last]], 0⟩, ⟨53, 2, [.agg [.vs 1 (List.map (PV.int .u8) x8.1.l), .int .i64 x8.1.at_]], 0⟩, ⟨24, 3, [.agg [.int .i64 x6.2.Cut, .int .i64 x6.2.Clear, .int .i64 x6.2.Delay]], 0⟩, ⟨26, 3, [.agg [.bool true, .int .i64 x8.2, .int .i64 0]], 0⟩])] rfl rfl (all1 (VRd.ntl (rd_eql rfl rfl)) all0) ?_
          refine dops_rdW [(low, [⟨24, 3, [.agg [.int .i64 p1.Cut, .int .i64 p1.Clear, .int .i64 p1.Delay]], 0⟩, ⟨26, 3, [.agg [.bool p2.Over, .int .i64 p2.Since, .int .i64 p2.Last]], 0⟩, ⟨53, 2, [.agg [.vs 1 (List.map (PV.int .u8) x8.1.l), .int .i64 x8.1.at_]], 0⟩, ⟨24, 3, [.agg [.int .i64 x6.2.Cut, .int .i64 x6.2.Clear, .int .i64 x6.2.Delay]], 0⟩, ⟨26, 3, [.agg [.bool true, .int .i64 x8.2, .int .i64 0]], 0⟩])] rfl rfl (all1 (VRd.ntl (rd_mvB rfl)) all0) ?_
          refine dops_takeW [(low, [⟨24, 3, [.agg [.int .i64 p1.Cut, .int .i64 p1.Clear, .int .i64 p1.Delay]], 0⟩, ⟨26, 3, [.agg [.bool p2.Over, .int .i64 p2.Since, .int .i64 p2.Last]], 0⟩, ⟨53, 2, [.agg [.vs 1 (List.map (PV.int .u8) x8.1.l), .int .i64 x8.1.at_]], 0⟩, ⟨24, 3, [.agg [.int .i64 x6.2.Cut, .int .i64 x6.2.Clear, .int .i64 x6.2.Delay]], 0⟩, ⟨26, 3, [.agg [.bool true, .int .i64 x8.2, .int .i64 0]], 0⟩])] rfl rfl rfl (congrArg PV.bool c14) (all1 (VRd.ntl (rd_loadN (ds := [.int .i64 p1.Cut, .int .i64 p1.Clear, .int .i64 p1.Delay]) rfl (getO_N rfl rfl) rfl ta_24 ts_24 rfl rfl rfl)) all0) ?_
          refine dops_takeW [(low, [⟨24, 3, [.agg [.int .i64 p1.Cut, .int .i64 p1.Clear, .int .i64 p1.Delay]], 0⟩, ⟨26, 3, [.agg [.bool p2.Over, .int .i64 p2.Since, .int .i64 p2.Last]], 0⟩, ⟨53, 2, [.agg [.vs 1 (List.map (PV.int .u8) x8.1.l), .int .i64 x8.1.at_]], 0⟩, ⟨24, 3, [.agg [.int .i64 x6.2.Cut, .int .i64 x6.2.Clear, .int .i64 x6.2.Delay]], 0⟩, ⟨26, 3, [.agg [.bool true, .int .i64 x8.2, .int .i64 0]], 0⟩])] rfl rfl rfl (congrArg PV.bool c14) (all1 (VRd.ntl (rd_loadN (ds := [.bool p2.Over, .int .i64 p2.Since, .int .i64 p2.Last]) rfl (getO_N rfl rfl) rfl ta_26 ts_26 rfl rfl rfl)) all0) ?_
          refine dops_takeW [(low, [⟨24, 3, [.agg [.int .i64 p1.Cut, .int .i64 p1.Clear, .int .i64 p1.Delay]], 0⟩, ⟨26, 3, [.agg [.bool p2.Over, .int .i64 p2.Since, .int .i64 p2.Last]], 0⟩, ⟨53, 2, [.agg [.vs 1 (List.map (PV.int .u8) x8.1.l), .int .i64 x8.1.at_]], 0⟩, ⟨24, 3, [.agg [.int .i64 x6.2.Cut, .int .i64 x6.2.Clear, .int .i64 x6.2.Delay]], 0⟩, ⟨26, 3, [.agg [.bool true, .int .i64 x8.2, .int .i64 0]], 0⟩])] rfl rfl rfl (congrArg PV.bool c14) (all1 (nt_of (vef_callP rfl Try.call21 (F_level_Next_ok h16 _))) all0) ?_
          refine dops_takeW [(low, [⟨24, 3, [.agg [.int .i64 p1.Cut, .int .i64 p1.Clear, .int .i64 p1.Delay]], 0⟩, ⟨26, 3, [.agg [.bool p2.Over, .int .i64 p2.Since, .int .i64 p2.Last]], 0⟩, ⟨53, 2, [.agg [.vs 1 (List.map (PV.int .u8) x8.1.l), .int .i64 x8.1.at_]], 0⟩, ⟨24, 3, [.agg [.int .i64 x6.2.Cut, .int .i64 x6.2.Clear, .int .i64 x6.2.Delay]], 0⟩, ⟨26, 3, [.agg [.bool true, .int .i64 x8.2, .int .i64 0]], 0⟩])] rfl rfl rfl (congrArg PV.bool c14) (all1 (VRd.ntl (rd_loadN (ds := [.int .i64 p1.Cut, .int .i64 p1.Clear, .int .i64 p1.Delay]) rfl (getO_N rfl rfl) rfl ta_24 ts_24 rfl rfl rfl)) all0) ?_
          refine dops_takeW [(low, [⟨24, 3, [.agg [.int .i64 p1.Cut, .int .i64 p1.Clear, .int .i64 p1.Delay]], 0⟩, ⟨26, 3, [.agg [.bool p2.Over, .int .i64 p2.Since, .int .i64 p2.Last]], 0⟩, ⟨53, 2, [.agg [.vs 1 (List.map (PV.int .u8) x8.1.l), .int .i64 x8.1.at_]], 0⟩, ⟨24, 3, [.agg [.int .i64 x6.2.Cut, .int .i64 x6.2.Clear, .int .i64 x6.2.Delay]], 0⟩, ⟨26, 3, [.agg [.bool true, .int .i64 x8.2, .int .i64 0]], 0⟩])] rfl rfl rfl (congrArg PV.bool c14) (all1 (VRd.ntl (rd_loadN (ds := [.bool p2.Over, .int .i64 p2.Since, .int .i64 p2.Last]) rfl (getO_N rfl rfl) rfl ta_26 ts_26 rfl rfl rfl)) all0) ?_
          refine dops_takeW [(low, [⟨24, 3, [.agg [.int .i64 p1.Cut, .int .i64 p1.Clear, .int .i64 p1.Delay]], 0⟩, ⟨26, 3, [.agg [.bool p2.Over, .int .i64 p2.Since, .int .i64 p2.Last]], 0⟩, ⟨53, 2, [.agg [.vs 1 (List.map (PV.int .u8) x8.1.l), .int .i64 x8.1.at_]], 0⟩, ⟨24, 3, [.agg [.int .i64 x6.2.Cut, .int .i64 x6.2.Clear, .int .i64 x6.2.Delay]], 0⟩, ⟨26, 3, [.agg [.bool true, .int .i64 x8.2, .int .i64 0]], 0⟩])] rfl rfl rfl (congrArg PV.bool c14) (all1 (nt_of (vef_callP rfl Try.call22 (F_ref17_Next_ok h18 _))) all0) ?_
          refine dops_takeW [(low, [⟨24, 3, [.agg [.int .i64 p1.Cut, .int .i64 p1.Clear, .int .i64 p1.Delay]], 0⟩, ⟨26, 3, [.agg [.bool p2.Over, .int .i64 p2.Since, .int .i64 p2.Last]], 0⟩, ⟨53, 2, [.agg [.vs 1 (List.map (PV.int .u8) x8.1.l), .int .i64 x8.1.at_]], 0⟩, ⟨24, 3, [.agg [.int .i64 x6.2.Cut, .int .i64 x6.2.Clear, .int .i64 x6.2.Delay]], 0⟩, ⟨26, 3, [.agg [.bool true, .int .i64 x8.2, .int .i64 0]], 0⟩])] rfl rfl rfl (congrArg PV.bool c14) (all1 (VRd.ntl (rd_eql rfl rfl)) all0) ?_
          refine dops_rdW [(low, [⟨24, 3, [.agg [.int .i64 p1.Cut, .int .i64 p1.Clear, .int .i64 p1.Delay]], 0⟩, ⟨26, 3, [.agg [.bool p2.Over, .int .i64 p2.Since, .int .i64 p2.Last]], 0⟩, ⟨53, 2, [.agg [.vs 1 (List.map (PV.int .u8) x8.1.l), .int .i64 x8.1.at_]], 0⟩, ⟨24, 3, [.agg [.int .i64 x6.2.Cut, .int .i64 x6.2.Clear, .int .i64 x6.2.Delay]], 0⟩, ⟨26, 3, [.agg [.bool true, .int .i64 x8.2, .int .i64 0]], 0⟩])] rfl rfl (all1 (VRd.ntl (rd_pickT (congrArg PV.bool c14) rfl)) all0) ?_
          refine dops_rdW [(low, [⟨24, 3, [.agg [.int .i64 p1.Cut, .int .i64 p1.Clear, .int .i64 p1.Delay]], 0⟩, ⟨26, 3, [.agg [.bool p2.Over, .int .i64 p2.Since, .int .i64 p2.Last]], 0⟩, ⟨53, 2, [.agg [.vs 1 (List.map (PV.int .u8) x8.1.l), .int .i64 x8.1.at_]], 0⟩, ⟨24, 3, [.agg [.int .i64 x6.2.Cut, .int .i64 x6.2.Clear, .int .i64 x6.2.Delay]], 0⟩, ⟨26, 3, [.agg [.bool true, .int .i64 x8.2, .int .i64 0]], 0⟩])] rfl rfl (all1 (VRd.ntl (rd_mvB rfl)) all0) ?_
          refine dops_skip rfl rfl rfl (neF c19) ?_
          refine dops_skip rfl rfl rfl (neF c19) ?_
          refine dops_skip rfl rfl rfl (neF c19) ?_
          refine dops_skip rfl rfl rfl (neF c19) ?_
          refine dops_skip rfl rfl rfl (neF c19) ?_
          refine dops_skip rfl rfl rfl (neF c19) ?_
          refine dops_skip rfl rfl rfl (neF c19) ?_
          refine dops_rdW [(low, [⟨24, 3, [.agg [.int .i64 p1.Cut, .int .i64 p1.Clear, .int .i64 p1.Delay]], 0⟩, ⟨26, 3, [.agg [.bool p2.Over, .int .i64 p2.Since, .int .i64 p2.Last]], 0⟩, ⟨53, 2, [.agg [.vs 1 (List.map (PV.int .u8) x8.1.l), .int .i64 x8.1.at_]], 0⟩, ⟨24, 3, [.agg [.int .i64 x6.2.Cut, .int .i64 x6.2.Clear, .int .i64 x6.2.Delay]], 0⟩, ⟨26, 3, [.agg [.bool true, .int .i64 x8.2, .int .i64 0]], 0⟩])] rfl rfl (all1 (VRd.ntl (rd_pickF (congrArg PV.bool c19) rfl)) all0) ?_
          refine dops_rdW [(low, [⟨24, 3, [.agg [.int .i64 p1.Cut, .int .i64 p1.Clear, .int .i64 p1.Delay]], 0⟩, ⟨26, 3, [.agg [.bool p2.Over, .int .i64 p2.Since, .int .i64 p2.Last]], 0⟩, ⟨53, 2, [.agg [.vs 1 (List.map (PV.int .u8) x8.1.l), .int .i64 x8.1.at_]], 0⟩, ⟨24, 3, [.agg [.int .i64 x6.2.Cut, .int .i64 x6.2.Clear, .int .i64 x6.2.Delay]], 0⟩, ⟨26, 3, [.agg [.bool true, .int .i64 x8.2, .int .i64 0]], 0⟩])] rfl rfl (all1 (VRd.ntl (rd_mvB rfl)) all0) ?_
          refine dops_skip rfl rfl rfl (by decide) ?_
          refine dops_rdW [(low, [⟨24, 3, [.agg [.int .i64 p1.Cut, .int .i64 p1.Clear, .int .i64 p1.Delay]], 0⟩, ⟨26, 3, [.agg [.bool p2.Over, .int .i64 p2.Since, .int .i64 p2.Last]], 0⟩, ⟨53, 2, [.agg [.vs 1 (List.map (PV.int .u8) x8.1.l), .int .i64 x8.1.at_]], 0⟩, ⟨24, 3, [.agg [.int .i64 x6.2.Cut, .int .i64 x6.2.Clear, .int .i64 x6.2.Delay]], 0⟩, ⟨26, 3, [.agg [.bool true, .int .i64 x8.2, .int .i64 0]], 0⟩])] rfl rfl (all1 (VRd.ntl (rd_pickF rfl rfl)) all0) ?_
          refine dops_rdW [(low, [⟨24, 3, [.agg [.int .i64 p1.Cut, .int .i64 p1.Clear, .int .i64 p1.Delay]], 0⟩, ⟨26, 3, [.agg [.bool p2.Over, .int .i64 p2.Since, .int .i64 p2.Last]], 0⟩, ⟨53, 2, [.agg [.vs 1 (List.map (PV.int .u8) x8.1.l), .int .i64 x8.1.at_]], 0⟩, ⟨24, 3, [.agg [.int .i64 x6.2.Cut, .int .i64 x6.2.Clear, .int .i64 x6.2.Delay]], 0⟩, ⟨26, 3, [.agg [.bool true, .int .i64 x8.2, .int .i64 0]], 0⟩])] rfl rfl (all1 (VRd.ntl (rd_asB rfl)) all0) ?_
          refine dops_nil ?_
          refine vwp_ret ?_
          obtain rfl := Option.some.inj hF
          refine fnR ?_
          exact weak_pick rfl [] (by decide) ⟨rn_low rfl (.bool _), trivial⟩ trivial
      · have hF := bifF c14 hF
        refine vwp_drawn [[], [], [0, 1], [], [], [0, 1, 2, 3, 4], [0, 1, 2, 3, 4, 5], [0, 1, 2, 3, 4, 5, 6], [0, 1, 2, 3, 4, 5, 6, 7], [0, 1, 2, 3, 4, 5, 6, 7], [0, 1, 2, 3, 4, 5, 6, 7, 8, 9], [0, 1, 2, 3, 4, 5, 6, 7], [0, 1, 2, 3, 4, 5, 6, 7], [0, 1, 2, 3, 4, 5, 6, 7, 8, 9, 10, 11, 12], [0, 1, 2, 3, 4, 5, 6, 7, 8, 9, 10, 11, 12, 13], [0, 1, 2, 3, 4, 5, 6, 7, 8, 9, 10, 11, 12, 13, 14], [0, 1, 2, 3, 4, 5, 6, 7, 8, 9, 10, 11, 12, 13, 14, 15], [0, 1, 2, 3, 4, 5, 6, 7, 8, 9, 10, 11, 12, 13, 14, 15, 16], [0, 1, 2, 3, 4, 5, 6, 7, 8, 9, 10, 11, 12, 13, 14, 15, 16], [0, 1, 2, 3, 4, 5, 6, 7, 8, 9, 10, 11, 12, 13, 14, 15, 16, 17, 18], [0, 1, 2, 3, 4, 5, 6, 7, 8, 9, 10, 11, 12, 13, 14, 15, 16], [0, 1, 2, 3, 4, 5, 6, 7, 8, 9, 10, 11, 12, 13, 14, 15, 16], [0, 1, 2, 3, 4, 5, 6, 7, 8, 9, 10, 11, 12, 13, 14, 15, 16, 17, 18, 19, 20, 21], [0, 1, 2, 3, 4, 5, 6, 7, 8, 9, 10, 11, 12, 13, 14, 15, 16, 17, 18, 19, 20, 21, 22], [0, 1, 2, 3, 4, 5, 6, 7, 8, 9, 10, 11, 12, 13, 14, 15, 16, 17, 18, 19, 20, 21, 22, 23], [0, 1, 2, 3, 4, 5, 6, 7, 8, 9, 10, 11, 12, 13, 14, 15, 16, 17, 18, 19, 20, 21, 22, 23, 24], [0, 1, 2, 3, 4, 5, 6, 7, 8, 9, 10, 11, 12, 13, 14, 15, 16, 17, 18, 19, 20, 21, 22, 23, 24, 25], [0, 1, 2, 3, 4, 5, 6, 7, 8, 9, 10, 11, 12, 13, 14, 15, 16, 17, 18, 19, 20, 21, 22, 23, 24, 25, 26], [0, 1, 2, 3, 4, 5, 6, 7, 8, 9, 10, 11, 12, 13, 14, 15, 16, 17, 18, 19, 20, 21, 22, 23, 24, 25, 26, 27]] [false, false, false, false, false, false, false, false, false, false, false, false, false, false, false, false, false, false, false, false, false, false, false, false, false, false, false, false, false] [(low, [⟨24, 3, [.agg [.int .i64 p1.Cut, .int .i64 p1.Clear, .int .i64 p1.Delay]], 0⟩, ⟨26, 3, [.agg [.bool p2.Over, .int .i64 p2.Since, .int .i64 p2.Last]], 0⟩, ⟨53, 2, [.agg [.vs 1 (List.map (PV.int .u8) x8.1.l), .int .i64 x8.1.at_]], 0⟩, ⟨24, 3, [.agg [.int .i64 x6.2.Cut, .int .i64 x6.2.Clear, .int .i64 x6.2.Delay]], 0⟩, ⟨26, 3, [.agg [.bool true, .int .i64 x8.2, .int .i64 0]], 0⟩])] mixed (by kernel_rfl) rfl (lenAll (all1 rfl all0)) rfl (low, [⟨24, 3, [.agg [.int .i64 p1.Cut, .int .i64 p1.Clear, .int .i64 p1.Delay]], 0⟩, ⟨26, 3, [.agg [.bool p2.Over, .int .i64 p2.Since, .int .i64 p2.Last]], 0⟩, ⟨53, 2, [.agg [.vs 1 (List.map (PV.int .u8) x8.1.l), .int .i64 x8.1.at_]], 0⟩, ⟨24, 3, [.agg [.int .i64 x6.2.Cut, .int .i64 x6.2.Clear, .int .i64 x6.2.Delay]], 0⟩, ⟨26, 3, [.agg [.bool true, .int .i64 x8.2, .int .i64 0]], 0⟩]) rfl rfl ?_
        refine dops_rdW [(low, [⟨24, 3, [.agg [.int .i64 p1.Cut, .int .i64 p1.Clear, .int .i64 p1.Delay]], 0⟩, ⟨26, 3, [.agg [.bool p2.Over, .int .i64 p2.Since, .int .i64 p2.Last]], 0⟩, ⟨53, 2, [.agg [.vs 1 (List.map (PV.int .u8) x8.1.l), .int .i64 x8.1.at_]], 0⟩, ⟨24, 3, [.agg [.int .i64 x6.2.Cut, .int .i64 x6.2.Clear, .int .i64 x6.2.Delay]], 0⟩, ⟨26, 3, [.agg [.bool true, .int .i64 x8.2, .int .i64 0]], 0⟩])] rfl rfl (all1 (VRd.ntl (rd_loadN (ds := [.int .i64 x6.2.Cut, .int .i64 x6.2.Clear, .int .i64 x6.2.Delay]) rfl (getO_N rfl rfl) rfl ta_24 ts_24 rfl rfl rfl)) all0) ?_
        refine dops_rdW [(low, [⟨24, 3, [.agg [.int .i64 p1.Cut, .int .i64 p1.Clear, .int .i64 p1.Delay]], 0⟩, ⟨26, 3, [.agg [.bool p2.Over, .int .i64 p2.Since, .int .i64 p2.Last]], 0⟩, ⟨53, 2, [.agg [.vs 1 (List.map (PV.int .u8) x8.1.l), .int .i64 x8.1.at_]], 0⟩, ⟨24, 3, [.agg [.int .i64 x6.2.Cut, .int .i64 x6.2.Clear, .int .i64 x6.2.Delay]], 0⟩, ⟨26, 3, [.agg [.bool true, .int .i64 x8.2, .int .i64 0]], 0⟩])] rfl rfl (all1 (VRd.ntl (rd_loadN (ds := [.bool p2.Over, .int .i64 p2.Since, .int .i64 p2.Last]) rfl (getO_N rfl rfl) rfl ta_26 ts_26 rfl rfl rfl)) all0) ?_
        refine dops_rdW [(low, [⟨24, 3, [.agg [.int .i64 p1.Cut, .int .i64 p1.Clear, .int .i64 p1.Delay]], 0⟩, ⟨26, 3, [.agg [.bool p2.Over, .int .i64 p2.Since, .int .i64 p2.Last]], 0⟩, ⟨53, 2, [.agg [.vs 1 (List.map (PV.int .u8) x8.1.l), .int .i64 x8.1.at_]], 0⟩, ⟨24, 3, [.agg [.int .i64 x6.2.Cut, .int .i64 x6.2.Clear, .int .i64 x6.2.Delay]], 0⟩, ⟨26, 3, [.agg [.bool true, .int .i64 x8.2, .int .i64 0]], 0⟩])] rfl rfl (all1 (nt_of (vef_callP rfl Try.call21 (F_level_Next_ok h11 _))) all0) ?_
        refine dops_rdW [(low, [⟨24, 3, [.agg [.int .i64 p1.Cut, .int .i64 p1.Clear, .int .i64 p1.Delay]], 0⟩, ⟨26, 3, [.agg [.bool p2.Over, .int .i64 p2.Since, .int .i64 p2.Last]], 0⟩, ⟨53, 2, [.agg [.vs 1 (List.map (PV.int .u8) x8.1.l), .int .i64 x8.1.at_]], 0⟩, ⟨24, 3, [.agg [.int .i64 x6.2.Cut, .int .i64 x6.2.Clear, .int .i64 x6.2.Delay]], 0⟩, ⟨26, 3, [.agg [.bool true, .int .i64 x8.2, .int .i64 0]], 0⟩])] rfl rfl (all1 (VRd.ntl (rd_loadN (ds := [.int .i64 x6.2.Cut, .int .i64 x6.2.Clear, .int .i64 x6.2.Delay]) rfl (getO_N rfl rfl) rfl ta_24 ts_24 rfl rfl rfl)) all0) ?_
        refine dops_rdW [(low, [⟨24, 3, [.agg [.int .i64 p1.Cut, .int .i64 p1.Clear, .int .i64 p1.Delay]], 0⟩, ⟨26, 3, [.agg [.bool p2.Over, .int .i64 p2.Since, .int .i64 p2.Last]], 0⟩, ⟨53, 2, [.agg [.vs 1 (List.map (PV.int .u8) x8.1.l), .int .i64 x8.1.at_]], 0⟩, ⟨24, 3, [.agg [.int .i64 x6.2.Cut, .int .i64 x6.2.Clear, .int .i64 x6.2.Delay]], 0⟩, ⟨26, 3, [.agg [.bool true, .int .i64 x8.2, .int .i64 0]], 0⟩])] rfl rfl (all1 (VRd.ntl (rd_loadN (ds := [.bool p2.Over, .int .i64 p2.Since, .int .i64 p2.Last]) rfl (getO_N rfl rfl) rfl ta_26 ts_26 rfl rfl rfl)) all0) ?_
        refine dops_rdW [(low, [⟨24, 3, [.agg [.int .i64 p1.Cut, .int .i64 p1.Clear, .int .i64 p1.Delay]], 0⟩, ⟨26, 3, [.agg [.bool p2.Over, .int .i64 p2.Since, .int .i64 p2.Last]], 0⟩, ⟨53, 2, [.agg [.vs 1 (List.map (PV.int .u8) x8.1.l), .int .i64 x8.1.at_]], 0⟩, ⟨24, 3, [.agg [.int .i64 x6.2.Cut, .int .i64 x6.2.Clear, .int .i64 x6.2.Delay]], 0⟩, ⟨26, 3, [.agg [.bool true, .int .i64 x8.2, .int .i64 0]], 0⟩])] rfl rfl (all1 (nt_of (vef_callP rfl Try.call22 (F_ref17_Next_ok h13 _))) all0) ?_
        refine dops_rdW [(low, [⟨24, 3, [.agg [.int .i64 p1.Cut, .int .i64 p1.Clear, .int .i64 p1.Delay]], 0⟩, ⟨26, 3, [.agg [.bool p2.Over, .int .i64 p2.Since, .int .i64 p2.Last]], 0⟩, ⟨53, 2, [.agg [.vs 1 (List.map (PV.int .u8) x8.1.l), .int .i64 x8.1.at_]], 0⟩, ⟨24, 3, [.agg [.int .i64 x6.2.Cut, .int .i64 x6.2.Clear, .int .i64 x6.2.Delay]], 0⟩, ⟨26, 3, [.agg [.bool true, .int .i64 x8.2, .int .i64 0]], 0⟩])] rfl rfl (all1 (VRd.ntl (rd_eql rfl rfl)) all0) ?_
        refine dops_rdW [(low, [⟨24, 3, [.agg [.int .i64 p1.Cut, .int .i64 p1.Clear, .int .i64 p1.Delay]], 0⟩, ⟨26, 3, [.agg [.bool p2.Over, .int .i64 p2.Since, .int .i64 p2.Last]], 0⟩, ⟨53, 2, [.agg [.vs 1 (List.map (PV.int .u8) x8.1.l), .int .i64 x8.1.at_]], 0⟩, ⟨24, 3, [.agg [.int .i64 x6.2.Cut, .int .i64 x6.2.Clear, .int .i64 x6.2.Delay]], 0⟩, ⟨26, 3, [.agg [.bool true, .int .i64 x8.2, .int .i64 0]], 0⟩])] rfl rfl (all1 (VRd.ntl (rd_mvB rfl)) all0) ?_
        refine dops_skip rfl rfl rfl (neF c14) ?_
        refine dops_skip rfl rfl rfl (neF c14) ?_
        refine dops_skip rfl rfl rfl (neF c14) ?_
        refine dops_skip rfl rfl rfl (neF c14) ?_
        refine dops_skip rfl rfl rfl (neF c14) ?_
        refine dops_skip rfl rfl rfl (neF c14) ?_
        refine dops_skip rfl rfl rfl (neF c14) ?_
        refine dops_rdW [(low, [⟨24, 3, [.agg [.int .i64 p1.Cut, .int .i64 p1.Clear, .int .i64 p1.Delay]], 0⟩, ⟨26, 3, [.agg [.bool p2.Over, .int .i64 p2.Since, .int .i64 p2.Last]], 0⟩, ⟨53, 2, [.agg [.vs 1 (List.map (PV.int .u8) x8.1.l), .int .i64 x8.1.at_]], 0⟩, ⟨24, 3, [.agg [.int .i64 x6.2.Cut, .int .i64 x6.2.Clear, .int .i64 x6.2.Delay]], 0⟩, ⟨26, 3, [.agg [.bool true, .int .i64 x8.2, .int .i64 0]], 0⟩])] rfl rfl (all1 (VRd.ntl (rd_pickF (congrArg PV.bool c14) rfl)) all0) ?_
        refine dops_rdW [(low, [⟨24, 3, [.agg [.int .i64 p1.Cut, .int .i64 p1.Clear, .int .i64 p1.Delay]], 0⟩, ⟨26, 3, [.agg [.bool p2.Over, .int .i64 p2.Since, .int .i64 p2.Last]], 0⟩, ⟨53, 2, [.agg [.vs 1 (List.map (PV.int .u8) x8.1.l), .int .i64 x8.1.at_]], 0⟩, ⟨24, 3, [.agg [.int .i64 x6.2.Cut, .int .i64 x6.2.Clear, .int .i64 x6.2.Delay]], 0⟩, ⟨26, 3, [.agg [.bool true, .int .i64 x8.2, .int .i64 0]], 0⟩])] rfl rfl (all1 (VRd.ntl (rd_mvB rfl)) all0) ?_
        refine dops_skip rfl rfl rfl (by decide) ?_
        refine dops_skip rfl rfl rfl (by decide) ?_
        refine dops_skip rfl rfl rfl (by decide) ?_
        refine dops_skip rfl rfl rfl (by decide) ?_
        refine dops_skip rfl rfl rfl (by decide) ?_
        refine dops_skip rfl rfl rfl (by decide) ?_
        refine dops_skip rfl rfl rfl (by decide) ?_
        refine dops_rdW [(low, [⟨24, 3, [.agg [.int .i64 p1.Cut, .int .i64 p1.Clear, .int .i64 p1.Delay]], 0⟩, ⟨26, 3, [.agg [.bool p2.Over, .int .i64 p2.Since, .int .i64 p2.Last]], 0⟩, ⟨53, 2, [.agg [.vs 1 (List.map (PV.int .u8) x8.1.l), .int .i64 x8.1.at_]], 0⟩, ⟨24, 3, [.agg [.int .i64 x6.2.Cut, .int .i64 x6.2.Clear, .int .i64 x6.2.Delay]], 0⟩, ⟨26, 3, [.agg [.bool true, .int .i64 x8.2, .int .i64 0]], 0⟩])] rfl rfl (all1 (VRd.ntl (rd_pickF rfl rfl)) all0) ?_
        refine dops_rdW [(low, [⟨24, 3, [.agg [.int .i64 p1.Cut, .int .i64 p1.Clear, .int .i64 p1.Delay]], 0⟩, ⟨26, 3, [.agg [.bool p2.Over, .int .i64 p2.Since, .int .i64 p2.Last]], 0⟩, ⟨53, 2, [.agg [.vs 1 (List.map (PV.int .u8) x8.1.l), .int .i64 x8.1.at_]], 0⟩, ⟨24, 3, [.agg [.int .i64 x6.2.Cut, .int .i64 x6.2.Clear, .int .i64 x6.2.Delay]], 0⟩, ⟨26, 3, [.agg [.bool true, .int .i64 x8.2, .int .i64 0]], 0⟩])] rfl rfl (all1 (VRd.ntl (rd_mvB rfl)) all0) ?_
        refine dops_skip rfl rfl rfl (by decide) ?_
        refine dops_rdW [(low, [⟨24, 3, [.agg [.int .i64 p1.Cut, .int .i64 p1.Clear, .int .i64 p1.Delay]], 0⟩, ⟨26, 3, [.agg [.bool p2.Over, .int .i64 p2.Since, .int .i64 p2.Last]], 0⟩, ⟨53, 2, [.agg [.vs 1 (List.map (PV.int .u8) x8.1.l), .int .i64 x8.1.at_]], 0⟩, ⟨24, 3, [.agg [.int .i64 x6.2.Cut, .int .i64 x6.2.Clear, .int .i64 x6.2.Delay]], 0⟩, ⟨26, 3, [.agg [.bool true, .int .i64 x8.2, .int .i64 0]], 0⟩])] rfl rfl (all1 (VRd.ntl (rd_pickF rfl rfl)) all0) ?_
        refine dops_rdW [(low, [⟨24, 3, [.agg [.int .i64 p1.Cut, .int .i64 p1.Clear, .int .i64 p1.Delay]], 0⟩, ⟨26, 3, [.agg [.bool p2.Over, .int .i64 p2.Since, .int .i64 p2.Last]], 0⟩, ⟨53, 2, [.agg [.vs 1 (List.map (PV.int .u8) x8.1.l), .int .i64 x8.1.at_]], 0⟩, ⟨24, 3, [.agg [.int .i64 x6.2.Cut, .int .i64 x6.2.Clear, .int .i64 x6.2.Delay]], 0⟩, ⟨26, 3, [.agg [.bool true, .int .i64 x8.2, .int .i64 0]], 0⟩])] rfl rfl (all1 (VRd.ntl (rd_asB rfl)) all0) ?_
        refine dops_nil ?_
        refine vwp_ret ?_
        obtain rfl := Option.some.inj hF
        refine fnR ?_
        exact weak_pick rfl [] (by decide) ⟨rn_low rfl (.bool _), trivial⟩ trivial
  · rintro _ _ _ _ ⟨he, hw⟩
    refine ⟨_, _, _, hw, ?_⟩
    exact bodyQ_pure he [.bool r] ⟨rfl, trivial⟩ (.bool _) ⟨rfl, rfl⟩

theorem F_law17_story_ok0 {p0 : T_draw_Codes} {p1 : T_Level} {r : T_draw_Codes × List T_law17_seen} (hF : F_law17_story p0 p1 = some r) {low0 : List AObj} {q0 w0 : Nat} (hq0 : q0 < low0.length) :
    VCalls Try.prog 23 [.ptr q0 w0 0 0, .agg [.int .i64 p1.Cut, .int .i64 p1.Clear, .int .i64 p1.Delay]] (low0.set q0 ⟨53, 2, [.agg [.vs 1 (List.map (PV.int .u8) p0.l), .int .i64 p0.at_]], w0⟩) fun x low' => x = .vs 3 (List.map T_law17_seen.enc r.2) ∧ low' = low0.set q0 ⟨53, 2, [.agg [.vs 1 (List.map (PV.int .u8) r.1.l), .int .i64 r.1.at_]], w0⟩ := by
  refine vcalls_of_body (nt := 42) (rs := [.tmp 4]) Try.func23 rfl rfl (Nat.le_of_ble_eq_true rfl) rfl ?_
  refine vwp_monoW (Q' := FnE (fun E' lw lc => Weak E' lw lc [(4, .vs 3 (List.map T_law17_seen.enc r.2))] (low0.set q0 ⟨53, 2, [.agg [.vs 1 (List.map (PV.int .u8) r.1.l), .int .i64 r.1.at_]], w0⟩) [])) ?_ ?_
  · unfold F_law17_story at hF
    refine vwp_seq ?_
    refine vwp_region ?_
    refine vops_efE (vef_boxN List.length_set rfl (v := .agg [.int .i64 p1.Cut, .int .i64 p1.Clear, .int .i64 p1.Delay]) rfl rfl (Nat.succ_pos _) rfl rfl) rfl ?_
    refine vops_rd (rd_nv (sz := 3) (rd_asN rfl)) rfl ?_
    refine vops_nil ?_
    refine vwp_seq ?_
    refine vwp_region ?_
    refine vops_efE (vef_nilsN List.length_set rfl 48 3 (Nat.succ_pos _) (rd_asN rfl)) rfl ?_
    refine vops_nil ?_
    refine vwp_seq ?_
    refine vwp_seq ?_
    refine vwp_region ?_
    obtain ⟨x1, h2, hF⟩ := bnd hF
    refine vops_rd (rd_mvP rfl) rfl ?_
    refine vops_efE (vef_callL hq0 (o' := ⟨53, 2, [.agg [.vs 1 (List.map (PV.int .u8) x1.1.l), .int .i64 x1.1.at_]], w0⟩) (ltObj_es ⟨(lt_agg ⟨.vs _ _, .int _ _, trivial⟩), trivial⟩) rfl Try.call24 (F_draw_Codes_Next_ok h2 (get_low hq0))) rfl ?_
    refine vops_rd (rd_asI rfl) rfl ?_
    refine vops_nil ?_
    refine vwp_block ?_
    obtain ⟨o4, ho4, hF⟩ := bnd hF
    refine vwp_monoW (vwp_loopC (F_law17_story_L1 p1) (fun s3 E' lw lc => Weak E' lw lc [(0, .ptr q0 w0 0 0), (3, .ptr (low0.length + 0) 0 0 0), (5, .sl (low0.length + 1) 0 0 (s3.2.1).length), (6, .int .i64 s3.1)] (low0.set q0 ⟨53, 2, [.agg [.vs 1 (List.map (PV.int .u8) s3.2.2.l), .int .i64 s3.2.2.at_]], w0⟩) [⟨24, 3, [.agg [.int .i64 p1.Cut, .int .i64 p1.Clear, .int .i64 p1.Delay]], 0⟩, ⟨48, 3, List.map T_law17_seen.enc s3.2.1, 0⟩]) (fun o4 => OnlyE (.exit 0) (fun E' lw lc => Weak E' lw lc [(5, .sl (low0.length + 0) 0 0 (o4.1).length)] (low0.set q0 ⟨53, 2, [.agg [.vs 1 (List.map (PV.int .u8) o4.2.l), .int .i64 o4.2.at_]], w0⟩) [⟨48, 3, List.map T_law17_seen.enc o4.1, 0⟩])) ho4 ?_ (by rintro _ _ _ _ ⟨h, _⟩ <;> cases h) ?_) ?_
    · exact weak_sub ⟨rfl, rfl, rfl, rfl, trivial⟩
    · rintro s3 os3 _ _ _ hF hw
      unfold F_law17_story_L1 at hF
      refine vwp_weak hw ?_
      refine vwp_seq ?_
      refine vwp_seq ?_
      refine vwp_region ?_
      refine vops_rd (rd_mvI rfl) rfl ?_
      refine vops_rd (rd_gtr rfl rfl) rfl ?_
      refine vops_nil ?_
      refine vwp_cond rfl (fun c5 => ?_) (fun c5 => ?_)
      · have hF := bifT c5 hF
        refine vwp_skip ?_
        refine vwp_seq ?_
        refine vwp_block ?_
        refine vwp_seq ?_
        refine vwp_region ?_
        obtain ⟨x6, h7, hF⟩ := bnd hF
        obtain ⟨x8, h9, hF⟩ := bnd hF
        refine vops_rd (rd_mvP rfl) rfl ?_
        refine vops_efE (vef_callL hq0 (o' := ⟨53, 2, [.agg [.vs 1 (List.map (PV.int .u8) x6.1.l), .int .i64 x6.1.at_]], w0⟩) (ltObj_es ⟨(lt_agg ⟨.vs _ _, .int _ _, trivial⟩), trivial⟩) rfl Try.call24 (F_draw_Codes_Next_ok h7 (get_low hq0))) rfl ?_
        refine vops_rd (rd_mvP rfl) rfl ?_
        refine vops_efE (vef_callL hq0 (o' := ⟨53, 2, [.agg [.vs 1 (List.map (PV.int .u8) x8.1.l), .int .i64 x8.1.at_]], w0⟩) (ltObj_es ⟨(lt_agg ⟨.vs _ _, .int _ _, trivial⟩), trivial⟩) rfl Try.call12 (F_draw_Codes_Range_ok h9 (get_low hq0))) rfl ?_
        refine vops_rd (rd_build (vs := [(0, .int .i64 x6.2), (1, .int .i64 x8.2)]) (ds := [.int .i64 x6.2, .int .i64 x8.2, .int .i64 0]) tz_48 rfl rfl tp_48 ⟨rfl, rfl, rfl, rfl, trivial⟩ (nt_all2 rfl) rfl) rfl ?_
        refine vops_efE (vef_allocN List.length_set rfl tz_48 rfl rfl (Nat.succ_pos _) rfl) rfl ?_
        refine vops_efE (vef_store (p := .agg [.int .i64 x6.2, .int .i64 x8.2, .int .i64 0]) (e' := .agg [.int .i64 x6.2, .int .i64 x8.2, .int .i64 0]) rfl (getO_N List.length_set rfl) rfl rfl ts_48 rfl (nt_ne rfl) rfl (Nat.le_of_ble_eq_true rfl) rfl (setO_N List.length_set rfl)) rfl ?_
        refine vops_nil ?_
        refine vwp_seq ?_
        refine vwp_seq ?_
        refine vwp_region ?_
        obtain ⟨x10, h11, hF⟩ := bnd hF
        refine vops_rd (rd_mvP rfl) rfl ?_
        refine vops_efE (vef_callL hq0 (o' := ⟨53, 2, [.agg [.vs 1 (List.map (PV.int .u8) x10.1.l), .int .i64 x10.1.at_]], w0⟩) (ltObj_es ⟨(lt_agg ⟨.vs _ _, .int _ _, trivial⟩), trivial⟩) rfl Try.call11 (F_draw_Codes_One_ok h11 (get_low hq0))) rfl ?_
        refine vops_nil ?_
        obtain ⟨o12, ho12, hF⟩ := bnd hF
        refine vwp_monoW (Q' := (fun o12 => OnlyE .normal (fun E' lw lc => Weak E' lw lc [(0, .ptr q0 w0 0 0), (3, .ptr (low0.length + 0) 0 0 0), (5, .sl (low0.length + 1) 0 0 (s3.2.1).length), (6, .int .i64 s3.1), (7, .ptr (low0.length + 2) 0 0 0)] (low0.set q0 ⟨53, 2, [.agg [.vs 1 (List.map (PV.int .u8) o12.2.l), .int .i64 o12.2.at_]], w0⟩) [⟨24, 3, [.agg [.int .i64 p1.Cut, .int .i64 p1.Clear, .int .i64 p1.Delay]], 0⟩, ⟨48, 3, List.map T_law17_seen.enc s3.2.1, 0⟩, ⟨48, 3, [.agg [.int .i64 x6.2, .int .i64 o12.1, .int .i64 0]], 0⟩])) o12) ?_ ?_
        · replace hF := ho12
          refine vwp_cond rfl (fun c13 => ?_) (fun c13 => ?_)
          · have hF := bifT c13 hF
            obtain ⟨x14, h15, hF⟩ := bnd hF
            refine vwp_drawn [[], [0], [], [2], [0, 1, 2, 3], [0, 1, 2, 3, 4], [0, 1, 2, 3, 4, 5]] [false, false, false, true, false, false, true] [((low0.set q0 ⟨53, 2, [.agg [.vs 1 (List.map (PV.int .u8) x10.1.l), .int .i64 x10.1.at_]], w0⟩), [⟨24, 3, [.agg [.int .i64 p1.Cut, .int .i64 p1.Clear, .int .i64 p1.Delay]], 0⟩, ⟨48, 3, List.map T_law17_seen.enc s3.2.1, 0⟩, ⟨48, 3, [.agg [.int .i64 x6.2, .int .i64 x8.2, .int .i64 0]], 0⟩]), ((low0.set q0 ⟨53, 2, [.agg [.vs 1 (List.map (PV.int .u8) x14.1.l), .int .i64 x14.1.at_]], w0⟩), [⟨24, 3, [.agg [.int .i64 p1.Cut, .int .i64 p1.Clear, .int .i64 p1.Delay]], 0⟩, ⟨48, 3, List.map T_law17_seen.enc s3.2.1, 0⟩, ⟨48, 3, [.agg [.int .i64 x6.2, .int .i64 x8.2, .int .i64 0]], 0⟩]), ((low0.set q0 ⟨53, 2, [.agg [.vs 1 (List.map (PV.int .u8) x14.1.l), .int .i64 x14.1.at_]], w0⟩), [⟨24, 3, [.agg [.int .i64 p1.Cut, .int .i64 p1.Clear, .int .i64 p1.Delay]], 0⟩, ⟨48, 3, List.map T_law17_seen.enc s3.2.1, 0⟩, ⟨48, 3, [.agg [.int .i64 x6.2, .int .i64 (IntKind.i64.wrap (p1.Clear - x14.2)), .int .i64 0]], 0⟩])] mixed (by kernel_rfl) rfl (lenAll (all1 len_set2 (all1 len_set2 (all1 len_set2 all0)))) rfl ((low0.set q0 ⟨53, 2, [.agg [.vs 1 (List.map (PV.int .u8) x14.1.l), .int .i64 x14.1.at_]], w0⟩), [⟨24, 3, [.agg [.int .i64 p1.Cut, .int .i64 p1.Clear, .int .i64 p1.Delay]], 0⟩, ⟨48, 3, List.map T_law17_seen.enc s3.2.1, 0⟩, ⟨48, 3, [.agg [.int .i64 x6.2, .int .i64 (IntKind.i64.wrap (p1.Clear - x14.2)), .int .i64 0]], 0⟩]) rfl rfl ?_
            refine dops_rdW [((low0.set q0 ⟨53, 2, [.agg [.vs 1 (List.map (PV.int .u8) x10.1.l), .int .i64 x10.1.at_]], w0⟩), [⟨24, 3, [.agg [.int .i64 p1.Cut, .int .i64 p1.Clear, .int .i64 p1.Delay]], 0⟩, ⟨48, 3, List.map T_law17_seen.enc s3.2.1, 0⟩, ⟨48, 3, [.agg [.int .i64 x6.2, .int .i64 x8.2, .int .i64 0]], 0⟩]), ((low0.set q0 ⟨53, 2, [.agg [.vs 1 (List.map (PV.int .u8) x14.1.l), .int .i64 x14.1.at_]], w0⟩), [⟨24, 3, [.agg [.int .i64 p1.Cut, .int .i64 p1.Clear, .int .i64 p1.Delay]], 0⟩, ⟨48, 3, List.map T_law17_seen.enc s3.2.1, 0⟩, ⟨48, 3, [.agg [.int .i64 x6.2, .int .i64 x8.2, .int .i64 0]], 0⟩])] rfl rfl (all1 (VRd.ntl (rd_fieldAddr rfl tf_24_1 ts_3 (by decide))) (all1 (VRd.ntl (rd_fieldAddr rfl tf_24_1 ts_3 (by decide))) all0)) ?_
            refine dops_rdW [((low0.set q0 ⟨53, 2, [.agg [.vs 1 (List.map (PV.int .u8) x10.1.l), .int .i64 x10.1.at_]], w0⟩), [⟨24, 3, [.agg [.int .i64 p1.Cut, .int .i64 p1.Clear, .int .i64 p1.Delay]], 0⟩, ⟨48, 3, List.map T_law17_seen.enc s3.2.1, 0⟩, ⟨48, 3, [.agg [.int .i64 x6.2, .int .i64 x8.2, .int .i64 0]], 0⟩]), ((low0.set q0 ⟨53, 2, [.agg [.vs 1 (List.map (PV.int .u8) x14.1.l), .int .i64 x14.1.at_]], w0⟩), [⟨24, 3, [.agg [.int .i64 p1.Cut, .int .i64 p1.Clear, .int .i64 p1.Delay]], 0⟩, ⟨48, 3, List.map T_law17_seen.enc s3.2.1, 0⟩, ⟨48, 3, [.agg [.int .i64 x6.2, .int .i64 x8.2, .int .i64 0]], 0⟩])] rfl rfl (all1 (VRd.ntl (rd_load1 rfl (getO_N List.length_set rfl) rfl ta_3 rfl)) (all1 (VRd.ntl (rd_load1 rfl (getO_N List.length_set rfl) rfl ta_3 rfl)) all0)) ?_
            refine dops_rdW [((low0.set q0 ⟨53, 2, [.agg [.vs 1 (List.map (PV.int .u8) x10.1.l), .int .i64 x10.1.at_]], w0⟩), [⟨24, 3, [.agg [.int .i64 p1.Cut, .int .i64 p1.Clear, .int .i64 p1.Delay]], 0⟩, ⟨48, 3, List.map T_law17_seen.enc s3.2.1, 0⟩, ⟨48, 3, [.agg [.int .i64 x6.2, .int .i64 x8.2, .int .i64 0]], 0⟩])] rfl rfl (all1 (VRd.ntl (rd_mvP rfl)) all0) ?_
            refine dops_ef (M := ((low0.set q0 ⟨53, 2, [.agg [.vs 1 (List.map (PV.int .u8) x10.1.l), .int .i64 x10.1.at_]], w0⟩), [⟨24, 3, [.agg [.int .i64 p1.Cut, .int .i64 p1.Clear, .int .i64 p1.Delay]], 0⟩, ⟨48, 3, List.map T_law17_seen.enc s3.2.1, 0⟩, ⟨48, 3, [.agg [.int .i64 x6.2, .int .i64 x8.2, .int .i64 0]], 0⟩])) (M' := ((low0.set q0 ⟨53, 2, [.agg [.vs 1 (List.map (PV.int .u8) x14.1.l), .int .i64 x14.1.at_]], w0⟩), [⟨24, 3, [.agg [.int .i64 p1.Cut, .int .i64 p1.Clear, .int .i64 p1.Delay]], 0⟩, ⟨48, 3, List.map T_law17_seen.enc s3.2.1, 0⟩, ⟨48, 3, [.agg [.int .i64 x6.2, .int .i64 x8.2, .int .i64 0]], 0⟩])) rfl rfl rfl (vef_callL hq0 (o' := ⟨53, 2, [.agg [.vs 1 (List.map (PV.int .u8) x14.1.l), .int .i64 x14.1.at_]], w0⟩) (ltObj_es ⟨(lt_agg ⟨.vs _ _, .int _ _, trivial⟩), trivial⟩) rfl Try.call24 (F_draw_Codes_Next_ok h15 (get_low hq0))) ?_
            refine dops_rdW [((low0.set q0 ⟨53, 2, [.agg [.vs 1 (List.map (PV.int .u8) x14.1.l), .int .i64 x14.1.at_]], w0⟩), [⟨24, 3, [.agg [.int .i64 p1.Cut, .int .i64 p1.Clear, .int .i64 p1.Delay]], 0⟩, ⟨48, 3, List.map T_law17_seen.enc s3.2.1, 0⟩, ⟨48, 3, [.agg [.int .i64 x6.2, .int .i64 x8.2, .int .i64 0]], 0⟩])] rfl rfl (all1 (VRd.ntl (rd_sub rfl rfl rfl)) all0) ?_
            refine dops_rdW [((low0.set q0 ⟨53, 2, [.agg [.vs 1 (List.map (PV.int .u8) x14.1.l), .int .i64 x14.1.at_]], w0⟩), [⟨24, 3, [.agg [.int .i64 p1.Cut, .int .i64 p1.Clear, .int .i64 p1.Delay]], 0⟩, ⟨48, 3, List.map T_law17_seen.enc s3.2.1, 0⟩, ⟨48, 3, [.agg [.int .i64 x6.2, .int .i64 x8.2, .int .i64 0]], 0⟩])] rfl rfl (all1 (VRd.ntl (rd_fieldAddr rfl tf_48_1 ts_3 (by decide))) all0) ?_
            refine dops_ef (M := ((low0.set q0 ⟨53, 2, [.agg [.vs 1 (List.map (PV.int .u8) x14.1.l), .int .i64 x14.1.at_]], w0⟩), [⟨24, 3, [.agg [.int .i64 p1.Cut, .int .i64 p1.Clear, .int .i64 p1.Delay]], 0⟩, ⟨48, 3, List.map T_law17_seen.enc s3.2.1, 0⟩, ⟨48, 3, [.agg [.int .i64 x6.2, .int .i64 x8.2, .int .i64 0]], 0⟩])) (M' := ((low0.set q0 ⟨53, 2, [.agg [.vs 1 (List.map (PV.int .u8) x14.1.l), .int .i64 x14.1.at_]], w0⟩), [⟨24, 3, [.agg [.int .i64 p1.Cut, .int .i64 p1.Clear, .int .i64 p1.Delay]], 0⟩, ⟨48, 3, List.map T_law17_seen.enc s3.2.1, 0⟩, ⟨48, 3, [.agg [.int .i64 x6.2, .int .i64 (IntKind.i64.wrap (p1.Clear - x14.2)), .int .i64 0]], 0⟩])) rfl rfl rfl (vef_store (p := .int .i64 (IntKind.i64.wrap (p1.Clear - x14.2))) (e' := .agg [.int .i64 x6.2, .int .i64 (IntKind.i64.wrap (p1.Clear - x14.2)), .int .i64 0]) rfl (getO_N List.length_set rfl) rfl rfl ts_3 rfl (nt_ne rfl) rfl (Nat.le_of_ble_eq_true rfl) rfl (setO_N List.length_set rfl)) ?_
            refine dops_nil ?_
            obtain rfl := Option.some.inj hF
            refine onlyE ?_
            exact weak_sub ⟨rfl, rfl, rfl, rfl, rfl, trivial⟩
          · have hF := bifF c13 hF
            refine vwp_skip ?_
            obtain rfl := Option.some.inj hF
            refine onlyE ?_
            exact weak_sub ⟨rfl, rfl, rfl, rfl, rfl, trivial⟩
        · rintro _ _ _ _ ⟨rfl, hw⟩
          refine ⟨_, _, _, hw, ?_⟩
          refine vwp_seq ?_
          obtain ⟨x16, h17, hF⟩ := bnd hF
          refine vwp_drawn [[], [0], [], [2], [0, 1, 2, 3], [0, 1, 2, 3, 4], [0, 1, 2, 3, 4, 5]] [false, false, false, true, false, false, true] [((low0.set q0 ⟨53, 2, [.agg [.vs 1 (List.map (PV.int .u8) o12.2.l), .int .i64 o12.2.at_]], w0⟩), [⟨24, 3, [.agg [.int .i64 p1.Cut, .int .i64 p1.Clear, .int .i64 p1.Delay]], 0⟩, ⟨48, 3, List.map T_law17_seen.enc s3.2.1, 0⟩, ⟨48, 3, [.agg [.int .i64 x6.2, .int .i64 o12.1, .int .i64 0]], 0⟩]), ((low0.set q0 ⟨53, 2, [.agg [.vs 1 (List.map (PV.int .u8) x16.1.l), .int .i64 x16.1.at_]], w0⟩), [⟨24, 3, [.agg [.int .i64 p1.Cut, .int .i64 p1.Clear, .int .i64 p1.Delay]], 0⟩, ⟨48, 3, List.map T_law17_seen.enc s3.2.1, 0⟩, ⟨48, 3, [.agg [.int .i64 x6.2, .int .i64 o12.1, .int .i64 0]], 0⟩]), ((low0.set q0 ⟨53, 2, [.agg [.vs 1 (List.map (PV.int .u8) x16.1.l), .int .i64 x16.1.at_]], w0⟩), [⟨24, 3, [.agg [.int .i64 p1.Cut, .int .i64 p1.Clear, .int .i64 p1.Delay]], 0⟩, ⟨48, 3, List.map T_law17_seen.enc s3.2.1, 0⟩, ⟨48, 3, [.agg [.int .i64 x6.2, .int .i64 o12.1, .int .i64 (IntKind.i64.wrap (o12.1 + x16.2))]], 0⟩])] mixed (by kernel_rfl) rfl (lenAll (all1 len_set2 (all1 len_set2 (all1 len_set2 all0)))) rfl ((low0.set q0 ⟨53, 2, [.agg [.vs 1 (List.map (PV.int .u8) x16.1.l), .int .i64 x16.1.at_]], w0⟩), [⟨24, 3, [.agg [.int .i64 p1.Cut, .int .i64 p1.Clear, .int .i64 p1.Delay]], 0⟩, ⟨48, 3, List.map T_law17_seen.enc s3.2.1, 0⟩, ⟨48, 3, [.agg [.int .i64 x6.2, .int .i64 o12.1, .int .i64 (IntKind.i64.wrap (o12.1 + x16.2))]], 0⟩]) rfl rfl ?_
          refine dops_rdW [((low0.set q0 ⟨53, 2, [.agg [.vs 1 (List.map (PV.int .u8) o12.2.l), .int .i64 o12.2.at_]], w0⟩), [⟨24, 3, [.agg [.int .i64 p1.Cut, .int .i64 p1.Clear, .int .i64 p1.Delay]], 0⟩, ⟨48, 3, List.map T_law17_seen.enc s3.2.1, 0⟩, ⟨48, 3, [.agg [.int .i64 x6.2, .int .i64 o12.1, .int .i64 0]], 0⟩]), ((low0.set q0 ⟨53, 2, [.agg [.vs 1 (List.map (PV.int .u8) x16.1.l), .int .i64 x16.1.at_]], w0⟩), [⟨24, 3, [.agg [.int .i64 p1.Cut, .int .i64 p1.Clear, .int .i64 p1.Delay]], 0⟩, ⟨48, 3, List.map T_law17_seen.enc s3.2.1, 0⟩, ⟨48, 3, [.agg [.int .i64 x6.2, .int .i64 o12.1, .int .i64 0]], 0⟩])] rfl rfl (all1 (VRd.ntl (rd_fieldAddr rfl tf_48_1 ts_3 (by decide))) (all1 (VRd.ntl (rd_fieldAddr rfl tf_48_1 ts_3 (by decide))) all0)) ?_
          refine dops_rdW [((low0.set q0 ⟨53, 2, [.agg [.vs 1 (List.map (PV.int .u8) o12.2.l), .int .i64 o12.2.at_]], w0⟩), [⟨24, 3, [.agg [.int .i64 p1.Cut, .int .i64 p1.Clear, .int .i64 p1.Delay]], 0⟩, ⟨48, 3, List.map T_law17_seen.enc s3.2.1, 0⟩, ⟨48, 3, [.agg [.int .i64 x6.2, .int .i64 o12.1, .int .i64 0]], 0⟩]), ((low0.set q0 ⟨53, 2, [.agg [.vs 1 (List.map (PV.int .u8) x16.1.l), .int .i64 x16.1.at_]], w0⟩), [⟨24, 3, [.agg [.int .i64 p1.Cut, .int .i64 p1.Clear, .int .i64 p1.Delay]], 0⟩, ⟨48, 3, List.map T_law17_seen.enc s3.2.1, 0⟩, ⟨48, 3, [.agg [.int .i64 x6.2, .int .i64 o12.1, .int .i64 0]], 0⟩])] rfl rfl (all1 (VRd.ntl (rd_load1 rfl (getO_N List.length_set rfl) rfl ta_3 rfl)) (all1 (VRd.ntl (rd_load1 rfl (getO_N List.length_set rfl) rfl ta_3 rfl)) all0)) ?_
          refine dops_rdW [((low0.set q0 ⟨53, 2, [.agg [.vs 1 (List.map (PV.int .u8) o12.2.l), .int .i64 o12.2.at_]], w0⟩), [⟨24, 3, [.agg [.int .i64 p1.Cut, .int .i64 p1.Clear, .int .i64 p1.Delay]], 0⟩, ⟨48, 3, List.map T_law17_seen.enc s3.2.1, 0⟩, ⟨48, 3, [.agg [.int .i64 x6.2, .int .i64 o12.1, .int .i64 0]], 0⟩])] rfl rfl (all1 (VRd.ntl (rd_mvP rfl)) all0) ?_
          refine dops_ef (M := ((low0.set q0 ⟨53, 2, [.agg [.vs 1 (List.map (PV.int .u8) o12.2.l), .int .i64 o12.2.at_]], w0⟩), [⟨24, 3, [.agg [.int .i64 p1.Cut, .int .i64 p1.Clear, .int .i64 p1.Delay]], 0⟩, ⟨48, 3, List.map T_law17_seen.enc s3.2.1, 0⟩, ⟨48, 3, [.agg [.int .i64 x6.2, .int .i64 o12.1, .int .i64 0]], 0⟩])) (M' := ((low0.set q0 ⟨53, 2, [.agg [.vs 1 (List.map (PV.int .u8) x16.1.l), .int .i64 x16.1.at_]], w0⟩), [⟨24, 3, [.agg [.int .i64 p1.Cut, .int .i64 p1.Clear, .int .i64 p1.Delay]], 0⟩, ⟨48, 3, List.map T_law17_seen.enc s3.2.1, 0⟩, ⟨48, 3, [.agg [.int .i64 x6.2, .int .i64 o12.1, .int .i64 0]], 0⟩])) rfl rfl rfl (vef_callL hq0 (o' := ⟨53, 2, [.agg [.vs 1 (List.map (PV.int .u8) x16.1.l), .int .i64 x16.1.at_]], w0⟩) (ltObj_es ⟨(lt_agg ⟨.vs _ _, .int _ _, trivial⟩), trivial⟩) rfl Try.call24 (F_draw_Codes_Next_ok h17 (get_low hq0))) ?_
          refine dops_rdW [((low0.set q0 ⟨53, 2, [.agg [.vs 1 (List.map (PV.int .u8) x16.1.l), .int .i64 x16.1.at_]], w0⟩), [⟨24, 3, [.agg [.int .i64 p1.Cut, .int .i64 p1.Clear, .int .i64 p1.Delay]], 0⟩, ⟨48, 3, List.map T_law17_seen.enc s3.2.1, 0⟩, ⟨48, 3, [.agg [.int .i64 x6.2, .int .i64 o12.1, .int .i64 0]], 0⟩])] rfl rfl (all1 (VRd.ntl (rd_add rfl rfl rfl)) all0) ?_
          refine dops_rdW [((low0.set q0 ⟨53, 2, [.agg [.vs 1 (List.map (PV.int .u8) x16.1.l), .int .i64 x16.1.at_]], w0⟩), [⟨24, 3, [.agg [.int .i64 p1.Cut, .int .i64 p1.Clear, .int .i64 p1.Delay]], 0⟩, ⟨48, 3, List.map T_law17_seen.enc s3.2.1, 0⟩, ⟨48, 3, [.agg [.int .i64 x6.2, .int .i64 o12.1, .int .i64 0]], 0⟩])] rfl rfl (all1 (VRd.ntl (rd_fieldAddr rfl tf_48_2 ts_3 (by decide))) all0) ?_
          refine dops_ef (M := ((low0.set q0 ⟨53, 2, [.agg [.vs 1 (List.map (PV.int .u8) x16.1.l), .int .i64 x16.1.at_]], w0⟩), [⟨24, 3, [.agg [.int .i64 p1.Cut, .int .i64 p1.Clear, .int .i64 p1.Delay]], 0⟩, ⟨48, 3, List.map T_law17_seen.enc s3.2.1, 0⟩, ⟨48, 3, [.agg [.int .i64 x6.2, .int .i64 o12.1, .int .i64 0]], 0⟩])) (M' := ((low0.set q0 ⟨53, 2, [.agg [.vs 1 (List.map (PV.int .u8) x16.1.l), .int .i64 x16.1.at_]], w0⟩), [⟨24, 3, [.agg [.int .i64 p1.Cut, .int .i64 p1.Clear, .int .i64 p1.Delay]], 0⟩, ⟨48, 3, List.map T_law17_seen.enc s3.2.1, 0⟩, ⟨48, 3, [.agg [.int .i64 x6.2, .int .i64 o12.1, .int .i64 (IntKind.i64.wrap (o12.1 + x16.2))]], 0⟩])) rfl rfl rfl (vef_store (p := .int .i64 (IntKind.i64.wrap (o12.1 + x16.2))) (e' := .agg [.int .i64 x6.2, .int .i64 o12.1, .int .i64 (IntKind.i64.wrap (o12.1 + x16.2))]) rfl (getO_N List.length_set rfl) rfl rfl ts_3 rfl (nt_ne rfl) rfl (Nat.le_of_ble_eq_true rfl) rfl (setO_N List.length_set rfl)) ?_
          refine dops_nil ?_
          refine vwp_seq ?_
          refine vwp_seq ?_
          refine vwp_region ?_
          obtain ⟨x18, h19, hF⟩ := bnd hF
          refine vops_rd (rd_mvP rfl) rfl ?_
          refine vops_efE (vef_callL hq0 (o' := ⟨53, 2, [.agg [.vs 1 (List.map (PV.int .u8) x18.1.l), .int .i64 x18.1.at_]], w0⟩) (ltObj_es ⟨(lt_agg ⟨.vs _ _, .int _ _, trivial⟩), trivial⟩) rfl Try.call11 (F_draw_Codes_One_ok h19 (get_low hq0))) rfl ?_
          refine vops_nil ?_
          obtain ⟨o20, ho20, hF⟩ := bnd hF
          refine vwp_monoW (Q' := (fun o20 => OnlyE .normal (fun E' lw lc => Weak E' lw lc [(0, .ptr q0 w0 0 0), (3, .ptr (low0.length + 0) 0 0 0), (5, .sl (low0.length + 1) 0 0 (s3.2.1).length), (6, .int .i64 s3.1), (7, .ptr (low0.length + 2) 0 0 0)] (low0.set q0 ⟨53, 2, [.agg [.vs 1 (List.map (PV.int .u8) x18.1.l), .int .i64 x18.1.at_]], w0⟩) [⟨24, 3, [.agg [.int .i64 p1.Cut, .int .i64 p1.Clear, .int .i64 p1.Delay]], 0⟩, ⟨48, 3, List.map T_law17_seen.enc s3.2.1, 0⟩, ⟨48, 3, [.agg [.int .i64 o20.wait, .int .i64 o20.low, .int .i64 o20.high]], 0⟩])) o20) ?_ ?_
          · replace hF := ho20
            refine vwp_cond rfl (fun c21 => ?_) (fun c21 => ?_)
            · have hF := bifT c21 hF
              refine vwp_region ?_
              refine vops_rd (rd_fieldAddr rfl tf_48_1 ts_3 (by decide)) rfl ?_
              refine vops_efE (vef_store (p := .int .i64 (-1125899906842624)) (e' := .agg [.int .i64 x6.2, .int .i64 (-1125899906842624), .int .i64 (IntKind.i64.wrap (o12.1 + x16.2))]) rfl (getO_N List.length_set rfl) rfl rfl ts_3 rfl (nt_ne rfl) rfl (Nat.le_of_ble_eq_true rfl) rfl (setO_N List.length_set rfl)) rfl ?_
              refine vops_rd (rd_fieldAddr rfl tf_48_2 ts_3 (by decide)) rfl ?_
              refine vops_efE (vef_store (p := .int .i64 1125899906842624) (e' := .agg [.int .i64 x6.2, .int .i64 (-1125899906842624), .int .i64 1125899906842624]) rfl (getO_N List.length_set rfl) rfl rfl ts_3 rfl (nt_ne rfl) rfl (Nat.le_of_ble_eq_true rfl) rfl (setO_N List.length_set rfl)) rfl ?_
              refine vops_nil ?_
              obtain rfl := Option.some.inj hF
              refine onlyE ?_
              exact weak_sub ⟨rfl, rfl, rfl, rfl, rfl, trivial⟩
            · have hF := bifF c21 hF
              refine vwp_skip ?_
              obtain rfl := Option.some.inj hF
              refine onlyE ?_
              exact weak_sub ⟨rfl, rfl, rfl, rfl, rfl, trivial⟩
          · rintro _ _ _ _ ⟨rfl, hw⟩
            refine ⟨_, _, _, hw, ?_⟩
            refine vwp_region ?_
            obtain ⟨x22, h23, hF⟩ := bnd hF
            refine vops_rd (rd_mvL rfl) rfl ?_
            refine vops_rd (rd_loadN (ds := [.int .i64 o20.wait, .int .i64 o20.low, .int .i64 o20.high]) rfl (getO_N List.length_set rfl) rfl ta_48 ts_48 rfl rfl rfl) rfl ?_
            refine vops_efE (vef_litF (es := List.map T_law17_seen.enc [o20]) ⟨rfl, rfl, trivial⟩ rfl rfl (nt_all rfl) te_45 ts_48 tz_48 rfl rfl (Nat.succ_pos _) (by decide) (lt_map T_law17_seen.enc_lt)) rfl ?_
            refine vops_efE (vef_apL (f := T_law17_seen.enc) (l := s3.2.1) (ys := [o20]) rfl rfl (getO_N List.length_set rfl) rfl (src_vs rfl) te_45 ts_48 tb_48 (by decide) tz_48 rfl h23 (setO_N List.length_set rfl)) rfl ?_
            refine vops_rd (rd_asL rfl) rfl ?_
            refine vops_nil ?_
            refine vwp_region ?_
            refine vops_rd (rd_mvI rfl) rfl ?_
            refine vops_rd (rd_sub rfl rfl rfl) rfl ?_
            refine vops_rd (rd_asI rfl) rfl ?_
            refine vops_nil ?_
            obtain rfl := Option.some.inj hF
            refine onlyE ?_
            exact weak_pick List.length_set [(0, 0), (1, 0 + 1)] (by decide) ⟨rn_low rfl (.ptr _ _ _ _ hq0), rn_ptr 0 0 rfl rfl, rn_sl 1 1 rfl rfl, rn_low rfl (.int _ _), trivial⟩ ⟨⟨_, rfl, rfl, .same _ _ _ _ (ltObj_es ⟨(lt_agg ⟨.int _ _, .int _ _, .int _ _, trivial⟩), trivial⟩)⟩, ⟨_, rfl, rfl, .same _ _ _ _ (ltObj_map T_law17_seen.enc_lt)⟩, trivial⟩
      · have hF := bifF c5 hF
        refine vwp_exit ?_
        obtain rfl := Option.some.inj hF
        refine onlyE ?_
        exact weak_pick List.length_set [(1, 0)] (by decide) ⟨rn_sl 0 1 rfl rfl, trivial⟩ ⟨⟨_, rfl, rfl, .same _ _ _ _ (ltObj_map T_law17_seen.enc_lt)⟩, trivial⟩
    · rintro _ _ _ _ ⟨rfl, hw⟩
      refine ⟨_, _, _, hw, ?_⟩
      refine vwp_seq ?_
      refine vwp_region ?_
      refine vops_rd (rd_mvL rfl) rfl ?_
      refine vops_rd (rd_asL rfl) rfl ?_
      refine vops_nil ?_
      refine vwp_ret ?_
      obtain rfl := Option.some.inj hF
      refine fnR ?_
      refine Weak.trans (weak_freezeN (E' := [(4, .vs 3 (List.map T_law17_seen.enc o4.1))]) (loc1 := [⟨48, 3, [], 0 + 1⟩]) List.length_set 0 rfl (lt_map T_law17_seen.enc_lt) ⟨cv_sl rfl rfl rfl (full_take rfl), trivial⟩ ⟨.refl _, trivial⟩) ?_
      exact weak_pick List.length_set [] (by decide) ⟨rn_low rfl (.vs _ _), trivial⟩ trivial
  · rintro _ _ _ _ ⟨he, hw⟩
    refine ⟨_, _, _, hw, ?_⟩
    exact bodyQ_pure he [.vs 3 (List.map T_law17_seen.enc r.2)] ⟨rfl, trivial⟩ (.vs _ _) ⟨rfl, rfl⟩

theorem F_law17_story_ok {p0 : T_draw_Codes} {p1 : T_Level} {r : T_draw_Codes × List T_law17_seen} (hF : F_law17_story p0 p1 = some r) {low : List AObj} {q0 w0 : Nat} (hq0 : low[q0]? = some ⟨53, 2, [.agg [.vs 1 (List.map (PV.int .u8) p0.l), .int .i64 p0.at_]], w0⟩) :
    VCalls Try.prog 23 [.ptr q0 w0 0 0, .agg [.int .i64 p1.Cut, .int .i64 p1.Clear, .int .i64 p1.Delay]] low fun x low' => x = .vs 3 (List.map T_law17_seen.enc r.2) ∧ low' = low.set q0 ⟨53, 2, [.agg [.vs 1 (List.map (PV.int .u8) r.1.l), .int .i64 r.1.at_]], w0⟩ := by
  obtain ⟨h1, h2⟩ := low_set hq0
  have h := F_law17_story_ok0 hF (w0 := w0) h1
  rw [← h2] at h
  exact h

theorem F_law17_LevelStories_ok {p0 : List Int} {r : Bool} (hF : F_law17_LevelStories p0 = some r) (low : List AObj) :
    VCalls Try.prog 5 [.vs 1 (List.map (PV.int .u8) p0)] low fun x low' => x = .bool r ∧ low' = low := by
  refine vcalls_of_body (nt := 66) (rs := [.tmp 2]) Try.func5 rfl rfl (Nat.le_of_ble_eq_true rfl) rfl ?_
  refine vwp_monoW (Q' := FnE (fun E' lw lc => Weak E' lw lc [(2, .bool r)] low [])) ?_ ?_
  · unfold F_law17_LevelStories at hF
    refine vwp_seq ?_
    refine vwp_region ?_
    refine vops_rd (rd_asB rfl) rfl ?_
    refine vops_nil ?_
    refine vwp_seq ?_
    refine vwp_region ?_
    obtain ⟨x1, h2, hF⟩ := bnd hF
    refine vops_rd (rd_mvV rfl) rfl ?_
    refine vops_efE (vef_callN (r := .ptr (low.length + 0) 0 0 0) (os := [⟨53, 2, [.agg [.vs 1 (List.map (PV.int .u8) x1.l), .int .i64 x1.at_]], 0⟩]) rfl Try.call9 (F_draw_New_ok h2 _ (len_app rfl rfl))) rfl ?_
    refine vops_rd (rd_asP rfl) rfl ?_
    refine vops_nil ?_
    refine vwp_seq ?_
    refine vwp_region ?_
    obtain ⟨x3, h4, hF⟩ := bnd hF
    refine vops_rd (rd_mvP rfl) rfl ?_
    refine vops_efE (vef_callMN (k := 0) (loc1 := [⟨53, 2, [.agg [.vs 1 (List.map (PV.int .u8) x3.1.l), .int .i64 x3.1.at_]], 0⟩]) rfl rfl Try.call10 (F_draw_Codes_Level_ok h4 (get_N rfl rfl)) rfl) rfl ?_
    refine vops_efE (vef_allocN rfl rfl tz_24 rfl rfl (Nat.succ_pos _) rfl) rfl ?_
    refine vops_efE (vef_store (p := .agg [.int .i64 x3.2.Cut, .int .i64 x3.2.Clear, .int .i64 x3.2.Delay]) (e' := .agg [.int .i64 x3.2.Cut, .int .i64 x3.2.Clear, .int .i64 x3.2.Delay]) rfl (getO_N rfl rfl) rfl rfl ts_24 rfl (nt_ne rfl) rfl (Nat.le_of_ble_eq_true rfl) rfl (setO_N rfl rfl)) rfl ?_
    refine vops_nil ?_
    refine vwp_seq ?_
    refine vwp_region ?_
    obtain ⟨x5, h6, hF⟩ := bnd hF
    obtain ⟨x7, h8, hF⟩ := bnd hF
    refine vops_efE (vef_callP rfl Try.call14 (F_level_Begin_ok h6 _)) rfl ?_
    refine vops_efE (vef_callP rfl Try.call19 (F_ref17_Begin_ok h8 _)) rfl ?_
    refine vops_efE (vef_allocN rfl rfl tz_26 rfl rfl (Nat.succ_pos _) rfl) rfl ?_
    refine vops_efE (vef_allocN rfl rfl tz_26 rfl rfl (Nat.succ_pos _) rfl) rfl ?_
    refine vops_efE (vef_store (p := .agg [.bool x5.Over, .int .i64 x5.Since, .int .i64 x5.Last]) (e' := .agg [.bool x5.Over, .int .i64 x5.Since, .int .i64 x5.Last]) rfl (getO_N rfl rfl) rfl rfl ts_26 rfl (nt_ne rfl) rfl (Nat.le_of_ble_eq_true rfl) rfl (setO_N rfl rfl)) rfl ?_
    refine vops_efE (vef_store (p := .agg [.bool x7.Over, .int .i64 x7.Since, .int .i64 x7.Last]) (e' := .agg [.bool x7.Over, .int .i64 x7.Since, .int .i64 x7.Last]) rfl (getO_N rfl rfl) rfl rfl ts_26 rfl (nt_ne rfl) rfl (Nat.le_of_ble_eq_true rfl) rfl (setO_N rfl rfl)) rfl ?_
    refine vops_nil ?_
    refine vwp_seq ?_
    refine vwp_region ?_
    refine vops_rd (rd_asI rfl) rfl ?_
    refine vops_nil ?_
    refine vwp_seq ?_
    refine vwp_seq ?_
    refine vwp_region ?_
    obtain ⟨x9, h10, hF⟩ := bnd hF
    refine vops_rd (rd_mvP rfl) rfl ?_
    refine vops_rd (rd_loadN (ds := [.int .i64 x3.2.Cut, .int .i64 x3.2.Clear, .int .i64 x3.2.Delay]) rfl (getO_N rfl rfl) rfl ta_24 ts_24 rfl rfl rfl) rfl ?_
    refine vops_efE (vef_callMN (k := 0) (loc1 := [⟨53, 2, [.agg [.vs 1 (List.map (PV.int .u8) x9.1.l), .int .i64 x9.1.at_]], 0⟩, ⟨24, 3, [.agg [.int .i64 x3.2.Cut, .int .i64 x3.2.Clear, .int .i64 x3.2.Delay]], 0⟩, ⟨26, 3, [.agg [.bool x5.Over, .int .i64 x5.Since, .int .i64 x5.Last]], 0⟩, ⟨26, 3, [.agg [.bool x7.Over, .int .i64 x7.Since, .int .i64 x7.Last]], 0⟩]) rfl rfl Try.call23 (F_law17_story_ok h10 (get_N rfl rfl)) rfl) rfl ?_
    refine vops_rd (rd_to (rd_lenV rfl rfl te_45) (congrArg (fun n : Nat => PV.int .i64 (n : Int)) (List.length_map _))) rfl ?_
    refine vops_rd (rd_mvI rfl) rfl ?_
    refine vops_nil ?_
    refine vwp_block ?_
    obtain ⟨o12, ho12, hF⟩ := bnd hF
    refine vwp_monoW (vwp_loopC (F_law17_LevelStories_L1 x3 x9) (fun s11 E' lw lc => Weak E' lw lc [(4, .ptr (low.length + 0) 0 0 0), (5, .ptr (low.length + 1) 0 0 0), (6, .ptr (low.length + 2) 0 0 0), (7, .int .i64 s11.1), (23, .vs 3 (List.map T_law17_seen.enc x9.2)), (24, .int .i64 ((x9.2).length : Int)), (25, .int .i64 s11.2.1)] low [⟨24, 3, [.agg [.int .i64 x3.2.Cut, .int .i64 x3.2.Clear, .int .i64 x3.2.Delay]], 0⟩, ⟨26, 3, [.agg [.bool s11.2.2.1.Over, .int .i64 s11.2.2.1.Since, .int .i64 s11.2.2.1.Last]], 0⟩, ⟨26, 3, [.agg [.bool s11.2.2.2.Over, .int .i64 s11.2.2.2.Since, .int .i64 s11.2.2.2.Last]], 0⟩]) (Sum.elim (fun j13 => OnlyE .ret (fun E' lw lc => Weak E' lw lc [(2, .bool false)] low [])) (fun j14 => OnlyE (.exit 0) (fun E' lw lc => Weak E' lw lc [] low []))) ho12 ?_ (by rintro (_|_) _ _ _ ⟨h, _⟩ <;> cases h) ?_) ?_
    · exact weak_pick rfl [(1, 0), (2, 0), (3, 0)] (by decide) ⟨rn_ptr 0 1 rfl rfl, rn_ptr 1 2 rfl rfl, rn_ptr 2 3 rfl rfl, rn_low rfl (.int _ _), rn_low rfl (.vs _ _), rn_low rfl (.int _ _), rn_low rfl (.int _ _), trivial⟩ ⟨⟨_, rfl, rfl, .same _ _ _ _ (ltObj_es ⟨(lt_agg ⟨.int _ _, .int _ _, .int _ _, trivial⟩), trivial⟩)⟩, ⟨_, rfl, rfl, .same _ _ _ _ (ltObj_es ⟨(lt_agg ⟨.bool _, .int _ _, .int _ _, trivial⟩), trivial⟩)⟩, ⟨_, rfl, rfl, .same _ _ _ _ (ltObj_es ⟨(lt_agg ⟨.bool _, .int _ _, .int _ _, trivial⟩), trivial⟩)⟩, trivial⟩
    · rintro s11 os11 _ _ _ hF hw
      unfold F_law17_LevelStories_L1 at hF
      refine vwp_weak hw ?_
      refine vwp_seq ?_
      refine vwp_region ?_
      refine vops_rd (rd_lss rfl rfl) rfl ?_
      refine vops_nil ?_
      refine vwp_seq ?_
      refine vwp_cond rfl (fun c15 => ?_) (fun c15 => ?_)
      · have hF := bifT c15 hF
        refine vwp_skip ?_
        refine vwp_seq ?_
        refine vwp_block ?_
        refine vwp_seq ?_
        refine vwp_region ?_
        obtain ⟨x16, h17, hF⟩ := bnd hF
        refine vops_rd (rd_to (rd_ixV rfl rfl h17 te_45 ts_48) (v' := .vptr [.int .i64 x16.wait, .int .i64 x16.low, .int .i64 x16.high] 0) rfl) rfl ?_
        refine vops_rd (rd_loadVN (ds := [.int .i64 x16.wait, .int .i64 x16.low, .int .i64 x16.high]) rfl ta_48 ts_48 rfl rfl) rfl ?_
        refine vops_efE (vef_allocN rfl rfl tz_48 rfl rfl (Nat.succ_pos _) rfl) rfl ?_
        refine vops_efE (vef_store (p := .agg [.int .i64 x16.wait, .int .i64 x16.low, .int .i64 x16.high]) (e' := .agg [.int .i64 x16.wait, .int .i64 x16.low, .int .i64 x16.high]) rfl (getO_N rfl rfl) rfl rfl ts_48 rfl (nt_ne rfl) rfl (Nat.le_of_ble_eq_true rfl) rfl (setO_N rfl rfl)) rfl ?_
        refine vops_nil ?_
        refine vwp_seq ?_
        refine vwp_region ?_
        refine vops_rd (rd_mvI rfl) rfl ?_
        refine vops_rd (rd_fieldAddr rfl tf_48_0 ts_3 (by decide)) rfl ?_
        refine vops_rd (rd_load1 rfl (getO_N rfl rfl) rfl ta_3 rfl) rfl ?_
        refine vops_rd (rd_add rfl rfl rfl) rfl ?_
        refine vops_rd (rd_asI rfl) rfl ?_
        refine vops_nil ?_
        refine vwp_seq ?_
        refine vwp_region ?_
        refine vops_rd (rd_fieldAddr rfl tf_48_1 ts_3 (by decide)) rfl ?_
        refine vops_rd (rd_load1 rfl (getO_N rfl rfl) rfl ta_3 rfl) rfl ?_
        refine vops_rd (rd_fieldAddr rfl tf_48_2 ts_3 (by decide)) rfl ?_
        refine vops_rd (rd_load1 rfl (getO_N rfl rfl) rfl ta_3 rfl) rfl ?_
        refine vops_rd (rd_build (vs := [(0, .int .i64 x16.low), (1, .int .i64 x16.high)]) (ds := [.int .i64 x16.low, .int .i64 x16.high]) tz_28 rfl rfl tp_28 ⟨rfl, rfl, rfl, rfl, trivial⟩ (nt_all2 rfl) rfl) rfl ?_
        refine vops_efE (vef_allocN rfl rfl tz_28 rfl rfl (Nat.succ_pos _) rfl) rfl ?_
        refine vops_efE (vef_store (p := .agg [.int .i64 x16.low, .int .i64 x16.high]) (e' := .agg [.int .i64 x16.low, .int .i64 x16.high]) rfl (getO_N rfl rfl) rfl rfl ts_28 rfl (nt_ne rfl) rfl (Nat.le_of_ble_eq_true rfl) rfl (setO_N rfl rfl)) rfl ?_
        refine vops_nil ?_
        refine vwp_seq ?_
        refine vwp_region ?_
        obtain ⟨x18, h19, hF⟩ := bnd hF
        refine vops_rd (rd_loadN (ds := [.int .i64 x3.2.Cut, .int .i64 x3.2.Clear, .int .i64 x3.2.Delay]) rfl (getO_N rfl rfl) rfl ta_24 ts_24 rfl rfl rfl) rfl ?_
        refine vops_rd (rd_loadN (ds := [.bool s11.2.2.1.Over, .int .i64 s11.2.2.1.Since, .int .i64 s11.2.2.1.Last]) rfl (getO_N rfl rfl) rfl ta_26 ts_26 rfl rfl rfl) rfl ?_
        refine vops_rd (rd_loadN (ds := [.int .i64 x16.low, .int .i64 x16.high]) rfl (getO_N rfl rfl) rfl ta_28 ts_28 rfl rfl rfl) rfl ?_
        refine vops_rd (rd_mvI rfl) rfl ?_
        refine vops_efE (vef_callP rfl Try.call15 (F_level_Step_ok h19 _)) rfl ?_
        refine vops_rd (rd_mvT rfl) rfl ?_
        refine vops_rd (rd_extract rfl rfl) rfl ?_
        refine vops_rd (rd_extract rfl rfl) rfl ?_
        refine vops_efE (vef_allocN rfl rfl tz_26 rfl rfl (Nat.succ_pos _) rfl) rfl ?_
        refine vops_efE (vef_store (p := .agg [.bool x18.1.Over, .int .i64 x18.1.Since, .int .i64 x18.1.Last]) (e' := .agg [.bool x18.1.Over, .int .i64 x18.1.Since, .int .i64 x18.1.Last]) rfl (getO_N rfl rfl) rfl rfl ts_26 rfl (nt_ne rfl) rfl (Nat.le_of_ble_eq_true rfl) rfl (setO_N rfl rfl)) rfl ?_
        refine vops_rd (rd_asI rfl) rfl ?_
        refine vops_nil ?_
        refine vwp_seq ?_
        refine vwp_region ?_
        obtain ⟨x20, h21, hF⟩ := bnd hF
        refine vops_rd (rd_loadN (ds := [.int .i64 x3.2.Cut, .int .i64 x3.2.Clear, .int .i64 x3.2.Delay]) rfl (getO_N rfl rfl) rfl ta_24 ts_24 rfl rfl rfl) rfl ?_
        refine vops_rd (rd_loadN (ds := [.bool s11.2.2.2.Over, .int .i64 s11.2.2.2.Since, .int .i64 s11.2.2.2.Last]) rfl (getO_N rfl rfl) rfl ta_26 ts_26 rfl rfl rfl) rfl ?_
        refine vops_rd (rd_loadN (ds := [.int .i64 x16.low, .int .i64 x16.high]) rfl (getO_N rfl rfl) rfl ta_28 ts_28 rfl rfl rfl) rfl ?_
        refine vops_rd (rd_mvI rfl) rfl ?_
        refine vops_efE (vef_callP rfl Try.call16 (F_ref17_Step_ok h21 _)) rfl ?_
        refine vops_rd (rd_mvT rfl) rfl ?_
        refine vops_rd (rd_extract rfl rfl) rfl ?_
        refine vops_rd (rd_extract rfl rfl) rfl ?_
        refine vops_efE (vef_allocN rfl rfl tz_26 rfl rfl (Nat.succ_pos _) rfl) rfl ?_
        refine vops_efE (vef_store (p := .agg [.bool x20.1.Over, .int .i64 x20.1.Since, .int .i64 x20.1.Last]) (e' := .agg [.bool x20.1.Over, .int .i64 x20.1.Since, .int .i64 x20.1.Last]) rfl (getO_N rfl rfl) rfl rfl ts_26 rfl (nt_ne rfl) rfl (Nat.le_of_ble_eq_true rfl) rfl (setO_N rfl rfl)) rfl ?_
        refine vops_rd (rd_asI rfl) rfl ?_
        refine vops_nil ?_
        refine vwp_seq ?_
        refine vwp_seq ?_
        obtain ⟨o22, ho22, hF⟩ := bnd hF
        refine vwp_monoW (Q' := (fun o22 => OnlyE .normal (fun E' lw lc => Weak E' lw lc [(4, .ptr (low.length + 0) 0 0 0), (5, .ptr (low.length + 1) 0 0 0), (6, .ptr (low.length + 2) 0 0 0), (7, .int .i64 (IntKind.i64.wrap (s11.1 + x16.wait))), (11, .ptr (low.length + 3) 0 0 0), (13, .ptr (low.length + 4) 0 0 0), (23, .vs 3 (List.map T_law17_seen.enc x9.2)), (24, .int .i64 ((x9.2).length : Int)), (25, .int .i64 s11.2.1), (61, .bool o22)] low [⟨24, 3, [.agg [.int .i64 x3.2.Cut, .int .i64 x3.2.Clear, .int .i64 x3.2.Delay]], 0⟩, ⟨26, 3, [.agg [.bool s11.2.2.1.Over, .int .i64 s11.2.2.1.Since, .int .i64 s11.2.2.1.Last]], 0⟩, ⟨26, 3, [.agg [.bool s11.2.2.2.Over, .int .i64 s11.2.2.2.Since, .int .i64 s11.2.2.2.Last]], 0⟩, ⟨26, 3, [.agg [.bool x18.1.Over, .int .i64 x18.1.Since, .int .i64 x18.1.Last]], 0⟩, ⟨26, 3, [.agg [.bool x20.1.Over, .int .i64 x20.1.Since, .int .i64 x20.1.Last]], 0⟩])) o22) ?_ ?_
        · replace hF := ho22
          refine vwp_region ?_
          rcases Bool.eq_false_or_eq_true (!((x18.1.Over == x20.1.Over) && ((x18.1.Since == x20.1.Since) && ((x18.1.Last == x20.1.Last) && true)))) with c23 | c23
          · have hF := bifT c23 hF
            refine vops_rd (rd_loadN (ds := [.bool x18.1.Over, .int .i64 x18.1.Since, .int .i64 x18.1.Last]) rfl (getO_N rfl rfl) rfl ta_26 ts_26 rfl rfl rfl) rfl ?_
            refine vops_rd (rd_loadN (ds := [.bool x20.1.Over, .int .i64 x20.1.Since, .int .i64 x20.1.Last]) rfl (getO_N rfl rfl) rfl ta_26 ts_26 rfl rfl rfl) rfl ?_
            refine vops_rd (rd_neqV (tab := eqTab) eqTab_ok rfl rfl eqg_26 rfl) rfl ?_
            refine vops_rd (rd_mvB rfl) rfl ?_
            refine vops_skip rfl rfl (neT c23) rfl ?_
            refine vops_skip rfl rfl (neT c23) rfl ?_
            refine vops_skip rfl rfl (neT c23) rfl ?_
            refine vops_rd (rd_pickT (congrArg PV.bool c23) rfl) rfl ?_
            refine vops_nil ?_
            obtain rfl := Option.some.inj hF
            refine onlyE ?_
            exact weak_pick rfl [(0, 0), (1, 0), (2, 0), (5, 0), (6, 0)] (by decide) ⟨rn_ptr 0 0 rfl rfl, rn_ptr 1 1 rfl rfl, rn_ptr 2 2 rfl rfl, rn_low rfl (.int _ _), rn_ptr 3 5 rfl rfl, rn_ptr 4 6 rfl rfl, rn_low rfl (.vs _ _), rn_low rfl (.int _ _), rn_low rfl (.int _ _), rn_low rfl (.bool _), trivial⟩ ⟨⟨_, rfl, rfl, .same _ _ _ _ (ltObj_es ⟨(lt_agg ⟨.int _ _, .int _ _, .int _ _, trivial⟩), trivial⟩)⟩, ⟨_, rfl, rfl, .same _ _ _ _ (ltObj_es ⟨(lt_agg ⟨.bool _, .int _ _, .int _ _, trivial⟩), trivial⟩)⟩, ⟨_, rfl, rfl, .same _ _ _ _ (ltObj_es ⟨(lt_agg ⟨.bool _, .int _ _, .int _ _, trivial⟩), trivial⟩)⟩, ⟨_, rfl, rfl, .same _ _ _ _ (ltObj_es ⟨(lt_agg ⟨.bool _, .int _ _, .int _ _, trivial⟩), trivial⟩)⟩, ⟨_, rfl, rfl, .same _ _ _ _ (ltObj_es ⟨(lt_agg ⟨.bool _, .int _ _, .int _ _, trivial⟩), trivial⟩)⟩, trivial⟩
          · have hF := bifF c23 hF
            refine vops_rd (rd_loadN (ds := [.bool x18.1.Over, .int .i64 x18.1.Since, .int .i64 x18.1.Last]) rfl (getO_N rfl rfl) rfl ta_26 ts_26 rfl rfl rfl) rfl ?_
            refine vops_rd (rd_loadN (ds := [.bool x20.1.Over, .int .i64 x20.1.Since, .int .i64 x20.1.Last]) rfl (getO_N rfl rfl) rfl ta_26 ts_26 rfl rfl rfl) rfl ?_
            refine vops_rd (rd_neqV (tab := eqTab) eqTab_ok rfl rfl eqg_26 rfl) rfl ?_
            refine vops_rd (rd_mvB rfl) rfl ?_
            refine vops_take rfl (congrArg PV.bool c23) ?_
            refine vops_rd (rd_mvI rfl) rfl ?_
            refine vops_take rfl (congrArg PV.bool c23) ?_
            refine vops_rd (rd_mvI rfl) rfl ?_
            refine vops_take rfl (congrArg PV.bool c23) ?_
            refine vops_rd (rd_neq rfl rfl) rfl ?_
            refine vops_rd (rd_pickF (congrArg PV.bool c23) rfl) rfl ?_
            refine vops_nil ?_
            obtain rfl := Option.some.inj hF
            refine onlyE ?_
            exact weak_pick rfl [(0, 0), (1, 0), (2, 0), (5, 0), (6, 0)] (by decide) ⟨rn_ptr 0 0 rfl rfl, rn_ptr 1 1 rfl rfl, rn_ptr 2 2 rfl rfl, rn_low rfl (.int _ _), rn_ptr 3 5 rfl rfl, rn_ptr 4 6 rfl rfl, rn_low rfl (.vs _ _), rn_low rfl (.int _ _), rn_low rfl (.int _ _), rn_low rfl (.bool _), trivial⟩ ⟨⟨_, rfl, rfl, .same _ _ _ _ (ltObj_es ⟨(lt_agg ⟨.int _ _, .int _ _, .int _ _, trivial⟩), trivial⟩)⟩, ⟨_, rfl, rfl, .same _ _ _ _ (ltObj_es ⟨(lt_agg ⟨.bool _, .int _ _, .int _ _, trivial⟩), trivial⟩)⟩, ⟨_, rfl, rfl, .same _ _ _ _ (ltObj_es ⟨(lt_agg ⟨.bool _, .int _ _, .int _ _, trivial⟩), trivial⟩)⟩, ⟨_, rfl, rfl, .same _ _ _ _ (ltObj_es ⟨(lt_agg ⟨.bool _, .int _ _, .int _ _, trivial⟩), trivial⟩)⟩, ⟨_, rfl, rfl, .same _ _ _ _ (ltObj_es ⟨(lt_agg ⟨.bool _, .int _ _, .int _ _, trivial⟩), trivial⟩)⟩, trivial⟩
        · rintro _ _ _ _ ⟨rfl, hw⟩
          refine ⟨_, _, _, hw, ?_⟩
          refine vwp_cond rfl (fun c24 => ?_) (fun c24 => ?_)
          · have hF := bifT c24 hF
            refine vwp_seq ?_
            refine vwp_region ?_
            refine vops_rd (rd_asB rfl) rfl ?_
            refine vops_nil ?_
            refine vwp_ret ?_
            obtain rfl := Option.some.inj hF
            refine onlyE ?_
            exact weak_pick rfl [] (by decide) ⟨rn_low rfl (.bool _), trivial⟩ trivial
          · have hF := bifF c24 hF
            refine vwp_skip ?_
            refine vwp_drawn [[], [], [0], [0, 1, 2]] [false, false, true, true] [(low, [⟨24, 3, [.agg [.int .i64 x3.2.Cut, .int .i64 x3.2.Clear, .int .i64 x3.2.Delay]], 0⟩, ⟨26, 3, [.agg [.bool s11.2.2.1.Over, .int .i64 s11.2.2.1.Since, .int .i64 s11.2.2.1.Last]], 0⟩, ⟨26, 3, [.agg [.bool s11.2.2.2.Over, .int .i64 s11.2.2.2.Since, .int .i64 s11.2.2.2.Last]], 0⟩, ⟨26, 3, [.agg [.bool x18.1.Over, .int .i64 x18.1.Since, .int .i64 x18.1.Last]], 0⟩, ⟨26, 3, [.agg [.bool x20.1.Over, .int .i64 x20.1.Since, .int .i64 x20.1.Last]], 0⟩]), (low, [⟨24, 3, [.agg [.int .i64 x3.2.Cut, .int .i64 x3.2.Clear, .int .i64 x3.2.Delay]], 0⟩, ⟨26, 3, [.agg [.bool x18.1.Over, .int .i64 x18.1.Since, .int .i64 x18.1.Last]], 0⟩, ⟨26, 3, [.agg [.bool s11.2.2.2.Over, .int .i64 s11.2.2.2.Since, .int .i64 s11.2.2.2.Last]], 0⟩, ⟨26, 3, [.agg [.bool x18.1.Over, .int .i64 x18.1.Since, .int .i64 x18.1.Last]], 0⟩, ⟨26, 3, [.agg [.bool x20.1.Over, .int .i64 x20.1.Since, .int .i64 x20.1.Last]], 0⟩]), (low, [⟨24, 3, [.agg [.int .i64 x3.2.Cut, .int .i64 x3.2.Clear, .int .i64 x3.2.Delay]], 0⟩, ⟨26, 3, [.agg [.bool x18.1.Over, .int .i64 x18.1.Since, .int .i64 x18.1.Last]], 0⟩, ⟨26, 3, [.agg [.bool x20.1.Over, .int .i64 x20.1.Since, .int .i64 x20.1.Last]], 0⟩, ⟨26, 3, [.agg [.bool x18.1.Over, .int .i64 x18.1.Since, .int .i64 x18.1.Last]], 0⟩, ⟨26, 3, [.agg [.bool x20.1.Over, .int .i64 x20.1.Since, .int .i64 x20.1.Last]], 0⟩])] mixed (by kernel_rfl) rfl (lenAll (all1 rfl (all1 rfl (all1 rfl all0)))) rfl (low, [⟨24, 3, [.agg [.int .i64 x3.2.Cut, .int .i64 x3.2.Clear, .int .i64 x3.2.Delay]], 0⟩, ⟨26, 3, [.agg [.bool x18.1.Over, .int .i64 x18.1.Since, .int .i64 x18.1.Last]], 0⟩, ⟨26, 3, [.agg [.bool x20.1.Over, .int .i64 x20.1.Since, .int .i64 x20.1.Last]], 0⟩, ⟨26, 3, [.agg [.bool x18.1.Over, .int .i64 x18.1.Since, .int .i64 x18.1.Last]], 0⟩, ⟨26, 3, [.agg [.bool x20.1.Over, .int .i64 x20.1.Since, .int .i64 x20.1.Last]], 0⟩]) rfl rfl ?_
            refine dops_rdW [(low, [⟨24, 3, [.agg [.int .i64 x3.2.Cut, .int .i64 x3.2.Clear, .int .i64 x3.2.Delay]], 0⟩, ⟨26, 3, [.agg [.bool s11.2.2.1.Over, .int .i64 s11.2.2.1.Since, .int .i64 s11.2.2.1.Last]], 0⟩, ⟨26, 3, [.agg [.bool s11.2.2.2.Over, .int .i64 s11.2.2.2.Since, .int .i64 s11.2.2.2.Last]], 0⟩, ⟨26, 3, [.agg [.bool x18.1.Over, .int .i64 x18.1.Since, .int .i64 x18.1.Last]], 0⟩, ⟨26, 3, [.agg [.bool x20.1.Over, .int .i64 x20.1.Since, .int .i64 x20.1.Last]], 0⟩])] rfl rfl (all1 (VRd.ntl (rd_loadN (ds := [.bool x18.1.Over, .int .i64 x18.1.Since, .int .i64 x18.1.Last]) rfl (getO_N rfl rfl) rfl ta_26 ts_26 rfl rfl rfl)) all0) ?_
            refine dops_rdW [(low, [⟨24, 3, [.agg [.int .i64 x3.2.Cut, .int .i64 x3.2.Clear, .int .i64 x3.2.Delay]], 0⟩, ⟨26, 3, [.agg [.bool s11.2.2.1.Over, .int .i64 s11.2.2.1.Since, .int .i64 s11.2.2.1.Last]], 0⟩, ⟨26, 3, [.agg [.bool s11.2.2.2.Over, .int .i64 s11.2.2.2.Since, .int .i64 s11.2.2.2.Last]], 0⟩, ⟨26, 3, [.agg [.bool x18.1.Over, .int .i64 x18.1.Since, .int .i64 x18.1.Last]], 0⟩, ⟨26, 3, [.agg [.bool x20.1.Over, .int .i64 x20.1.Since, .int .i64 x20.1.Last]], 0⟩]), (low, [⟨24, 3, [.agg [.int .i64 x3.2.Cut, .int .i64 x3.2.Clear, .int .i64 x3.2.Delay]], 0⟩, ⟨26, 3, [.agg [.bool x18.1.Over, .int .i64 x18.1.Since, .int .i64 x18.1.Last]], 0⟩, ⟨26, 3, [.agg [.bool s11.2.2.2.Over, .int .i64 s11.2.2.2.Since, .int .i64 s11.2.2.2.Last]], 0⟩, ⟨26, 3, [.agg [.bool x18.1.Over, .int .i64 x18.1.Since, .int .i64 x18.1.Last]], 0⟩, ⟨26, 3, [.agg [.bool x20.1.Over, .int .i64 x20.1.Since, .int .i64 x20.1.Last]], 0⟩])] rfl rfl (all1 (VRd.ntl (rd_loadN (ds := [.bool x20.1.Over, .int .i64 x20.1.Since, .int .i64 x20.1.Last]) rfl (getO_N rfl rfl) rfl ta_26 ts_26 rfl rfl rfl)) (all1 (VRd.ntl (rd_loadN (ds := [.bool x20.1.Over, .int .i64 x20.1.Since, .int .i64 x20.1.Last]) rfl (getO_N rfl rfl) rfl ta_26 ts_26 rfl rfl rfl)) all0)) ?_
            refine dops_ef (M := (low, [⟨24, 3, [.agg [.int .i64 x3.2.Cut, .int .i64 x3.2.Clear, .int .i64 x3.2.Delay]], 0⟩, ⟨26, 3, [.agg [.bool s11.2.2.1.Over, .int .i64 s11.2.2.1.Since, .int .i64 s11.2.2.1.Last]], 0⟩, ⟨26, 3, [.agg [.bool s11.2.2.2.Over, .int .i64 s11.2.2.2.Since, .int .i64 s11.2.2.2.Last]], 0⟩, ⟨26, 3, [.agg [.bool x18.1.Over, .int .i64 x18.1.Since, .int .i64 x18.1.Last]], 0⟩, ⟨26, 3, [.agg [.bool x20.1.Over, .int .i64 x20.1.Since, .int .i64 x20.1.Last]], 0⟩])) (M' := (low, [⟨24, 3, [.agg [.int .i64 x3.2.Cut, .int .i64 x3.2.Clear, .int .i64 x3.2.Delay]], 0⟩, ⟨26, 3, [.agg [.bool x18.1.Over, .int .i64 x18.1.Since, .int .i64 x18.1.Last]], 0⟩, ⟨26, 3, [.agg [.bool s11.2.2.2.Over, .int .i64 s11.2.2.2.Since, .int .i64 s11.2.2.2.Last]], 0⟩, ⟨26, 3, [.agg [.bool x18.1.Over, .int .i64 x18.1.Since, .int .i64 x18.1.Last]], 0⟩, ⟨26, 3, [.agg [.bool x20.1.Over, .int .i64 x20.1.Since, .int .i64 x20.1.Last]], 0⟩])) rfl rfl rfl (vef_store (p := .agg [.bool x18.1.Over, .int .i64 x18.1.Since, .int .i64 x18.1.Last]) (e' := .agg [.bool x18.1.Over, .int .i64 x18.1.Since, .int .i64 x18.1.Last]) rfl (getO_N rfl rfl) rfl rfl ts_26 rfl (nt_ne rfl) rfl (Nat.le_of_ble_eq_true rfl) rfl (setO_N rfl rfl)) ?_
            refine dops_ef (M := (low, [⟨24, 3, [.agg [.int .i64 x3.2.Cut, .int .i64 x3.2.Clear, .int .i64 x3.2.Delay]], 0⟩, ⟨26, 3, [.agg [.bool x18.1.Over, .int .i64 x18.1.Since, .int .i64 x18.1.Last]], 0⟩, ⟨26, 3, [.agg [.bool s11.2.2.2.Over, .int .i64 s11.2.2.2.Since, .int .i64 s11.2.2.2.Last]], 0⟩, ⟨26, 3, [.agg [.bool x18.1.Over, .int .i64 x18.1.Since, .int .i64 x18.1.Last]], 0⟩, ⟨26, 3, [.agg [.bool x20.1.Over, .int .i64 x20.1.Since, .int .i64 x20.1.Last]], 0⟩])) (M' := (low, [⟨24, 3, [.agg [.int .i64 x3.2.Cut, .int .i64 x3.2.Clear, .int .i64 x3.2.Delay]], 0⟩, ⟨26, 3, [.agg [.bool x18.1.Over, .int .i64 x18.1.Since, .int .i64 x18.1.Last]], 0⟩, ⟨26, 3, [.agg [.bool x20.1.Over, .int .i64 x20.1.Since, .int .i64 x20.1.Last]], 0⟩, ⟨26, 3, [.agg [.bool x18.1.Over, .int .i64 x18.1.Since, .int .i64 x18.1.Last]], 0⟩, ⟨26, 3, [.agg [.bool x20.1.Over, .int .i64 x20.1.Since, .int .i64 x20.1.Last]], 0⟩])) rfl rfl rfl (vef_store (p := .agg [.bool x20.1.Over, .int .i64 x20.1.Since, .int .i64 x20.1.Last]) (e' := .agg [.bool x20.1.Over, .int .i64 x20.1.Since, .int .i64 x20.1.Last]) rfl (getO_N rfl rfl) rfl rfl ts_26 rfl (nt_ne rfl) rfl (Nat.le_of_ble_eq_true rfl) rfl (setO_N rfl rfl)) ?_
            refine dops_nil ?_
            refine vwp_region ?_
            refine vops_rd (rd_add rfl rfl rfl) rfl ?_
            refine vops_rd (rd_mvI rfl) rfl ?_
            refine vops_nil ?_
            obtain rfl := Option.some.inj hF
            refine onlyE ?_
            exact weak_pick rfl [(0, 0), (1, 0), (2, 0)] (by decide) ⟨rn_ptr 0 0 rfl rfl, rn_ptr 1 1 rfl rfl, rn_ptr 2 2 rfl rfl, rn_low rfl (.int _ _), rn_low rfl (.vs _ _), rn_low rfl (.int _ _), rn_low rfl (.int _ _), trivial⟩ ⟨⟨_, rfl, rfl, .same _ _ _ _ (ltObj_es ⟨(lt_agg ⟨.int _ _, .int _ _, .int _ _, trivial⟩), trivial⟩)⟩, ⟨_, rfl, rfl, .same _ _ _ _ (ltObj_es ⟨(lt_agg ⟨.bool _, .int _ _, .int _ _, trivial⟩), trivial⟩)⟩, ⟨_, rfl, rfl, .same _ _ _ _ (ltObj_es ⟨(lt_agg ⟨.bool _, .int _ _, .int _ _, trivial⟩), trivial⟩)⟩, trivial⟩
      · have hF := bifF c15 hF
        refine vwp_exit ?_
        obtain rfl := Option.some.inj hF
        refine onlyE ?_
        exact weak_pick rfl [] (by decide) trivial trivial
    · rcases o12 with j13 | j14
      · replace hF := elimL hF
        rintro _ _ _ _ ⟨rfl, hw⟩
        refine ⟨_, _, _, hw, ?_⟩
        obtain rfl := Option.some.inj hF
        refine fnR ?_
        exact weak_sub ⟨rfl, trivial⟩
      · replace hF := elimR hF
        rintro _ _ _ _ ⟨rfl, hw⟩
        refine ⟨_, _, _, hw, ?_⟩
        refine vwp_seq ?_
        refine vwp_region ?_
        obtain ⟨x25, h26, hF⟩ := bnd hF
        refine vops_efE (vef_callP rfl Try.call20 (F_law17_awake_ok h26 _)) rfl ?_
        refine vops_rd (rd_asB rfl) rfl ?_
        refine vops_nil ?_
        refine vwp_ret ?_
        obtain rfl := Option.some.inj hF
        refine fnR ?_
        exact weak_sub ⟨rfl, trivial⟩
  · rintro _ _ _ _ ⟨he, hw⟩
    refine ⟨_, _, _, hw, ?_⟩
    exact bodyQ_pure he [.bool r] ⟨rfl, trivial⟩ (.bool _) ⟨rfl, rfl⟩

theorem F_law17_LevelSafe_ok {p0 : List Int} {r : Bool} (hF : F_law17_LevelSafe p0 = some r) (low : List AObj) :
    VCalls Try.prog 6 [.vs 1 (List.map (PV.int .u8) p0)] low fun x low' => x = .bool r ∧ low' = low := by
  refine vcalls_of_body (nt := 78) (rs := [.tmp 2]) Try.func6 rfl rfl (Nat.le_of_ble_eq_true rfl) rfl ?_
  refine vwp_monoW (Q' := FnE (fun E' lw lc => Weak E' lw lc [(2, .bool r)] low [])) ?_ ?_
  · unfold F_law17_LevelSafe at hF
    refine vwp_seq ?_
    refine vwp_region ?_
    refine vops_rd (rd_asB rfl) rfl ?_
    refine vops_nil ?_
    refine vwp_seq ?_
    refine vwp_region ?_
    obtain ⟨x1, h2, hF⟩ := bnd hF
    refine vops_rd (rd_mvV rfl) rfl ?_
    refine vops_efE (vef_callN (r := .ptr (low.length + 0) 0 0 0) (os := [⟨53, 2, [.agg [.vs 1 (List.map (PV.int .u8) x1.l), .int .i64 x1.at_]], 0⟩]) rfl Try.call9 (F_draw_New_ok h2 _ (len_app rfl rfl))) rfl ?_
    refine vops_rd (rd_asP rfl) rfl ?_
    refine vops_nil ?_
    refine vwp_seq ?_
    refine vwp_region ?_
    obtain ⟨x3, h4, hF⟩ := bnd hF
    refine vops_rd (rd_mvP rfl) rfl ?_
    refine vops_efE (vef_callMN (k := 0) (loc1 := [⟨53, 2, [.agg [.vs 1 (List.map (PV.int .u8) x3.1.l), .int .i64 x3.1.at_]], 0⟩]) rfl rfl Try.call10 (F_draw_Codes_Level_ok h4 (get_N rfl rfl)) rfl) rfl ?_
    refine vops_efE (vef_allocN rfl rfl tz_24 rfl rfl (Nat.succ_pos _) rfl) rfl ?_
    refine vops_efE (vef_store (p := .agg [.int .i64 x3.2.Cut, .int .i64 x3.2.Clear, .int .i64 x3.2.Delay]) (e' := .agg [.int .i64 x3.2.Cut, .int .i64 x3.2.Clear, .int .i64 x3.2.Delay]) rfl (getO_N rfl rfl) rfl rfl ts_24 rfl (nt_ne rfl) rfl (Nat.le_of_ble_eq_true rfl) rfl (setO_N rfl rfl)) rfl ?_
    refine vops_nil ?_
    refine vwp_seq ?_
    refine vwp_region ?_
    obtain ⟨x5, h6, hF⟩ := bnd hF
    refine vops_efE (vef_callP rfl Try.call14 (F_level_Begin_ok h6 _)) rfl ?_
    refine vops_efE (vef_allocN rfl rfl tz_26 rfl rfl (Nat.succ_pos _) rfl) rfl ?_
    refine vops_efE (vef_store (p := .agg [.bool x5.Over, .int .i64 x5.Since, .int .i64 x5.Last]) (e' := .agg [.bool x5.Over, .int .i64 x5.Since, .int .i64 x5.Last]) rfl (getO_N rfl rfl) rfl rfl ts_26 rfl (nt_ne rfl) rfl (Nat.le_of_ble_eq_true rfl) rfl (setO_N rfl rfl)) rfl ?_
    refine vops_nil ?_
    refine vwp_seq ?_
    refine vwp_region ?_
    refine vops_rd (rd_asI rfl) rfl ?_
    refine vops_rd (rd_asI rfl) rfl ?_
    refine vops_rd (rd_asB rfl) rfl ?_
    refine vops_nil ?_
    refine vwp_seq ?_
    refine vwp_seq ?_
    refine vwp_region ?_
    obtain ⟨x7, h8, hF⟩ := bnd hF
    refine vops_rd (rd_mvP rfl) rfl ?_
    refine vops_rd (rd_loadN (ds := [.int .i64 x3.2.Cut, .int .i64 x3.2.Clear, .int .i64 x3.2.Delay]) rfl (getO_N rfl rfl) rfl ta_24 ts_24 rfl rfl rfl) rfl ?_
    refine vops_efE (vef_callMN (k := 0) (loc1 := [⟨53, 2, [.agg [.vs 1 (List.map (PV.int .u8) x7.1.l), .int .i64 x7.1.at_]], 0⟩, ⟨24, 3, [.agg [.int .i64 x3.2.Cut, .int .i64 x3.2.Clear, .int .i64 x3.2.Delay]], 0⟩, ⟨26, 3, [.agg [.bool x5.Over, .int .i64 x5.Since, .int .i64 x5.Last]], 0⟩]) rfl rfl Try.call23 (F_law17_story_ok h8 (get_N rfl rfl)) rfl) rfl ?_
    refine vops_rd (rd_to (rd_lenV rfl rfl te_45) (congrArg (fun n : Nat => PV.int .i64 (n : Int)) (List.length_map _))) rfl ?_
    refine vops_rd (rd_mvI rfl) rfl ?_
    refine vops_nil ?_
    refine vwp_block ?_
    obtain ⟨o10, ho10, hF⟩ := bnd hF
    refine vwp_monoW (vwp_loopC (F_law17_LevelSafe_L1 x3 x7) (fun s9 E' lw lc => Weak E' lw lc [(4, .ptr (low.length + 0) 0 0 0), (5, .ptr (low.length + 1) 0 0 0), (6, .int .i64 s9.1), (7, .int .i64 s9.2.1), (8, .bool s9.2.2.1), (20, .vs 3 (List.map T_law17_seen.enc x7.2)), (21, .int .i64 ((x7.2).length : Int)), (22, .int .i64 s9.2.2.2.1)] low [⟨24, 3, [.agg [.int .i64 x3.2.Cut, .int .i64 x3.2.Clear, .int .i64 x3.2.Delay]], 0⟩, ⟨26, 3, [.agg [.bool s9.2.2.2.2.Over, .int .i64 s9.2.2.2.2.Since, .int .i64 s9.2.2.2.2.Last]], 0⟩]) (Sum.elim (fun j11 => OnlyE .ret (fun E' lw lc => Weak E' lw lc [(2, .bool false)] low [])) (fun j12 => OnlyE (.exit 0) (fun E' lw lc => Weak E' lw lc [] low []))) ho10 ?_ (by rintro (_|_) _ _ _ ⟨h, _⟩ <;> cases h) ?_) ?_
    · exact weak_pick rfl [(1, 0), (2, 0)] (by decide) ⟨rn_ptr 0 1 rfl rfl, rn_ptr 1 2 rfl rfl, rn_low rfl (.int _ _), rn_low rfl (.int _ _), rn_low rfl (.bool _), rn_low rfl (.vs _ _), rn_low rfl (.int _ _), rn_low rfl (.int _ _), trivial⟩ ⟨⟨_, rfl, rfl, .same _ _ _ _ (ltObj_es ⟨(lt_agg ⟨.int _ _, .int _ _, .int _ _, trivial⟩), trivial⟩)⟩, ⟨_, rfl, rfl, .same _ _ _ _ (ltObj_es ⟨(lt_agg ⟨.bool _, .int _ _, .int _ _, trivial⟩), trivial⟩)⟩, trivial⟩
    · rintro s9 os9 _ _ _ hF hw
      unfold F_law17_LevelSafe_L1 at hF
      refine vwp_weak hw ?_
      refine vwp_seq ?_
      refine vwp_region ?_
      refine vops_rd (rd_lss rfl rfl) rfl ?_
      refine vops_nil ?_
      refine vwp_seq ?_
      refine vwp_cond rfl (fun c13 => ?_) (fun c13 => ?_)
      · have hF := bifT c13 hF
        refine vwp_skip ?_
        refine vwp_seq ?_
        refine vwp_block ?_
        refine vwp_seq ?_
        refine vwp_region ?_
        obtain ⟨x14, h15, hF⟩ := bnd hF
        refine vops_rd (rd_to (rd_ixV rfl rfl h15 te_45 ts_48) (v' := .vptr [.int .i64 x14.wait, .int .i64 x14.low, .int .i64 x14.high] 0) rfl) rfl ?_
        refine vops_rd (rd_loadVN (ds := [.int .i64 x14.wait, .int .i64 x14.low, .int .i64 x14.high]) rfl ta_48 ts_48 rfl rfl) rfl ?_
        refine vops_efE (vef_allocN rfl rfl tz_48 rfl rfl (Nat.succ_pos _) rfl) rfl ?_
        refine vops_efE (vef_store (p := .agg [.int .i64 x14.wait, .int .i64 x14.low, .int .i64 x14.high]) (e' := .agg [.int .i64 x14.wait, .int .i64 x14.low, .int .i64 x14.high]) rfl (getO_N rfl rfl) rfl rfl ts_48 rfl (nt_ne rfl) rfl (Nat.le_of_ble_eq_true rfl) rfl (setO_N rfl rfl)) rfl ?_
        refine vops_nil ?_
        refine vwp_seq ?_
        refine vwp_region ?_
        refine vops_rd (rd_mvI rfl) rfl ?_
        refine vops_rd (rd_fieldAddr rfl tf_48_0 ts_3 (by decide)) rfl ?_
        refine vops_rd (rd_load1 rfl (getO_N rfl rfl) rfl ta_3 rfl) rfl ?_
        refine vops_rd (rd_add rfl rfl rfl) rfl ?_
        refine vops_rd (rd_asI rfl) rfl ?_
        refine vops_nil ?_
        refine vwp_seq ?_
        refine vwp_region ?_
        obtain ⟨x16, h17, hF⟩ := bnd hF
        refine vops_rd (rd_loadN (ds := [.int .i64 x3.2.Cut, .int .i64 x3.2.Clear, .int .i64 x3.2.Delay]) rfl (getO_N rfl rfl) rfl ta_24 ts_24 rfl rfl rfl) rfl ?_
        refine vops_rd (rd_loadN (ds := [.bool s9.2.2.2.2.Over, .int .i64 s9.2.2.2.2.Since, .int .i64 s9.2.2.2.2.Last]) rfl (getO_N rfl rfl) rfl ta_26 ts_26 rfl rfl rfl) rfl ?_
        refine vops_rd (rd_fieldAddr rfl tf_48_1 ts_3 (by decide)) rfl ?_
        refine vops_rd (rd_load1 rfl (getO_N rfl rfl) rfl ta_3 rfl) rfl ?_
        refine vops_rd (rd_fieldAddr rfl tf_48_2 ts_3 (by decide)) rfl ?_
        refine vops_rd (rd_load1 rfl (getO_N rfl rfl) rfl ta_3 rfl) rfl ?_
        refine vops_rd (rd_build (vs := [(0, .int .i64 x14.low), (1, .int .i64 x14.high)]) (ds := [.int .i64 x14.low, .int .i64 x14.high]) tz_28 rfl rfl tp_28 ⟨rfl, rfl, rfl, rfl, trivial⟩ (nt_all2 rfl) rfl) rfl ?_
        refine vops_rd (rd_mvI rfl) rfl ?_
        refine vops_efE (vef_callP rfl Try.call15 (F_level_Step_ok h17 _)) rfl ?_
        refine vops_rd (rd_mvT rfl) rfl ?_
        refine vops_rd (rd_extract rfl rfl) rfl ?_
        refine vops_rd (rd_extract rfl rfl) rfl ?_
        refine vops_efE (vef_allocN rfl rfl tz_26 rfl rfl (Nat.succ_pos _) rfl) rfl ?_
        refine vops_efE (vef_store (p := .agg [.bool x16.1.Over, .int .i64 x16.1.Since, .int .i64 x16.1.Last]) (e' := .agg [.bool x16.1.Over, .int .i64 x16.1.Since, .int .i64 x16.1.Last]) rfl (getO_N rfl rfl) rfl rfl ts_26 rfl (nt_ne rfl) rfl (Nat.le_of_ble_eq_true rfl) rfl (setO_N rfl rfl)) rfl ?_
        refine vops_rd (rd_asI rfl) rfl ?_
        refine vops_nil ?_
        refine vwp_seq ?_
        refine vwp_seq ?_
        refine vwp_region ?_
        refine vops_rd (rd_mvI rfl) rfl ?_
        refine vops_rd (rd_neq rfl rfl) rfl ?_
        refine vops_nil ?_
        refine vwp_cond rfl (fun c18 => ?_) (fun c18 => ?_)
        · have hF := bifT c18 hF
          refine vwp_seq ?_
          refine vwp_region ?_
          refine vops_rd (rd_asB rfl) rfl ?_
          refine vops_nil ?_
          refine vwp_ret ?_
          obtain rfl := Option.some.inj hF
          refine onlyE ?_
          exact weak_pick rfl [] (by decide) ⟨rn_low rfl (.bool _), trivial⟩ trivial
        · have hF := bifF c18 hF
          refine vwp_skip ?_
          refine vwp_seq ?_
          obtain ⟨o19, ho19, hF⟩ := bnd hF
          refine vwp_monoW (Q' := (fun o19 => OnlyE .normal (fun E' lw lc => Weak E' lw lc [(4, .ptr (low.length + 0) 0 0 0), (5, .ptr (low.length + 1) 0 0 0), (6, .int .i64 (IntKind.i64.wrap (s9.1 + x14.wait))), (7, .int .i64 o19.1), (8, .bool o19.2), (11, .ptr (low.length + 2) 0 0 0), (20, .vs 3 (List.map T_law17_seen.enc x7.2)), (21, .int .i64 ((x7.2).length : Int)), (22, .int .i64 s9.2.2.2.1)] low [⟨24, 3, [.agg [.int .i64 x3.2.Cut, .int .i64 x3.2.Clear, .int .i64 x3.2.Delay]], 0⟩, ⟨26, 3, [.agg [.bool s9.2.2.2.2.Over, .int .i64 s9.2.2.2.2.Since, .int .i64 s9.2.2.2.2.Last]], 0⟩, ⟨26, 3, [.agg [.bool x16.1.Over, .int .i64 x16.1.Since, .int .i64 x16.1.Last]], 0⟩])) o19) ?_ ?_
          · replace hF := ho19
            refine vwp_block ?_
            refine vwp_seq ?_
            refine vwp_region ?_
            refine vops_rd (rd_fieldAddr rfl tf_48_2 ts_3 (by decide)) rfl ?_
            refine vops_rd (rd_load1 rfl (getO_N rfl rfl) rfl ta_3 rfl) rfl ?_
            refine vops_rd (rd_fieldAddr rfl tf_24_0 ts_3 (by decide)) rfl ?_
            refine vops_rd (rd_load1 rfl (getO_N rfl rfl) rfl ta_3 rfl) rfl ?_
            refine vops_rd (rd_geq rfl rfl) rfl ?_
            refine vops_rd (rd_asB rfl) rfl ?_
            refine vops_nil ?_
            refine vwp_cond rfl (fun c20 => ?_) (fun c20 => ?_)
            · have hF := bifT c20 hF
              refine vwp_region ?_
              refine vops_rd (rd_asI rfl) rfl ?_
              refine vops_rd (rd_asB rfl) rfl ?_
              refine vops_nil ?_
              obtain rfl := Option.some.inj hF
              refine onlyE ?_
              exact weak_pick rfl [(0, 0), (1, 0), (3, 0)] (by decide) ⟨rn_ptr 0 0 rfl rfl, rn_ptr 1 1 rfl rfl, rn_low rfl (.int _ _), rn_low rfl (.int _ _), rn_low rfl (.bool _), rn_ptr 2 3 rfl rfl, rn_low rfl (.vs _ _), rn_low rfl (.int _ _), rn_low rfl (.int _ _), trivial⟩ ⟨⟨_, rfl, rfl, .same _ _ _ _ (ltObj_es ⟨(lt_agg ⟨.int _ _, .int _ _, .int _ _, trivial⟩), trivial⟩)⟩, ⟨_, rfl, rfl, .same _ _ _ _ (ltObj_es ⟨(lt_agg ⟨.bool _, .int _ _, .int _ _, trivial⟩), trivial⟩)⟩, ⟨_, rfl, rfl, .same _ _ _ _ (ltObj_es ⟨(lt_agg ⟨.bool _, .int _ _, .int _ _, trivial⟩), trivial⟩)⟩, trivial⟩
            · have hF := bifF c20 hF
              refine vwp_seq ?_
              refine vwp_region ?_
              refine vops_rd (rd_fieldAddr rfl tf_48_2 ts_3 (by decide)) rfl ?_
              refine vops_rd (rd_load1 rfl (getO_N rfl rfl) rfl ta_3 rfl) rfl ?_
              refine vops_rd (rd_fieldAddr rfl tf_24_1 ts_3 (by decide)) rfl ?_
              refine vops_rd (rd_load1 rfl (getO_N rfl rfl) rfl ta_3 rfl) rfl ?_
              refine vops_rd (rd_leq rfl rfl) rfl ?_
              refine vops_rd (rd_asB rfl) rfl ?_
              refine vops_nil ?_
              refine vwp_cond rfl (fun c21 => ?_) (fun c21 => ?_)
              · have hF := bifT c21 hF
                refine vwp_seq ?_
                refine vwp_seq ?_
                refine vwp_region ?_
                refine vops_rd (rd_mvI rfl) rfl ?_
                refine vops_rd (rd_eql rfl rfl) rfl ?_
                refine vops_nil ?_
                obtain ⟨o22, ho22, hF⟩ := bnd hF
                refine vwp_monoW (Q' := (fun o22 => OnlyE .normal (fun E' lw lc => Weak E' lw lc [(4, .ptr (low.length + 0) 0 0 0), (5, .ptr (low.length + 1) 0 0 0), (6, .int .i64 (IntKind.i64.wrap (s9.1 + x14.wait))), (7, .int .i64 o22), (8, .bool s9.2.2.1), (11, .ptr (low.length + 2) 0 0 0), (20, .vs 3 (List.map T_law17_seen.enc x7.2)), (21, .int .i64 ((x7.2).length : Int)), (22, .int .i64 s9.2.2.2.1)] low [⟨24, 3, [.agg [.int .i64 x3.2.Cut, .int .i64 x3.2.Clear, .int .i64 x3.2.Delay]], 0⟩, ⟨26, 3, [.agg [.bool s9.2.2.2.2.Over, .int .i64 s9.2.2.2.2.Since, .int .i64 s9.2.2.2.2.Last]], 0⟩, ⟨26, 3, [.agg [.bool x16.1.Over, .int .i64 x16.1.Since, .int .i64 x16.1.Last]], 0⟩])) o22) ?_ ?_
                · replace hF := ho22
                  refine vwp_cond rfl (fun c23 => ?_) (fun c23 => ?_)
                  · have hF := bifT c23 hF
                    refine vwp_region ?_
                    refine vops_rd (rd_mvI rfl) rfl ?_
                    refine vops_rd (rd_asI rfl) rfl ?_
                    refine vops_nil ?_
                    obtain rfl := Option.some.inj hF
                    refine onlyE ?_
                    exact weak_pick rfl [(0, 0), (1, 0), (3, 0)] (by decide) ⟨rn_ptr 0 0 rfl rfl, rn_ptr 1 1 rfl rfl, rn_low rfl (.int _ _), rn_low rfl (.int _ _), rn_low rfl (.bool _), rn_ptr 2 3 rfl rfl, rn_low rfl (.vs _ _), rn_low rfl (.int _ _), rn_low rfl (.int _ _), trivial⟩ ⟨⟨_, rfl, rfl, .same _ _ _ _ (ltObj_es ⟨(lt_agg ⟨.int _ _, .int _ _, .int _ _, trivial⟩), trivial⟩)⟩, ⟨_, rfl, rfl, .same _ _ _ _ (ltObj_es ⟨(lt_agg ⟨.bool _, .int _ _, .int _ _, trivial⟩), trivial⟩)⟩, ⟨_, rfl, rfl, .same _ _ _ _ (ltObj_es ⟨(lt_agg ⟨.bool _, .int _ _, .int _ _, trivial⟩), trivial⟩)⟩, trivial⟩
                  · have hF := bifF c23 hF
                    refine vwp_skip ?_
                    obtain rfl := Option.some.inj hF
                    refine onlyE ?_
                    exact weak_pick rfl [(0, 0), (1, 0), (3, 0)] (by decide) ⟨rn_ptr 0 0 rfl rfl, rn_ptr 1 1 rfl rfl, rn_low rfl (.int _ _), rn_low rfl (.int _ _), rn_low rfl (.bool _), rn_ptr 2 3 rfl rfl, rn_low rfl (.vs _ _), rn_low rfl (.int _ _), rn_low rfl (.int _ _), trivial⟩ ⟨⟨_, rfl, rfl, .same _ _ _ _ (ltObj_es ⟨(lt_agg ⟨.int _ _, .int _ _, .int _ _, trivial⟩), trivial⟩)⟩, ⟨_, rfl, rfl, .same _ _ _ _ (ltObj_es ⟨(lt_agg ⟨.bool _, .int _ _, .int _ _, trivial⟩), trivial⟩)⟩, ⟨_, rfl, rfl, .same _ _ _ _ (ltObj_es ⟨(lt_agg ⟨.bool _, .int _ _, .int _ _, trivial⟩), trivial⟩)⟩, trivial⟩
                · rintro _ _ _ _ ⟨rfl, hw⟩
                  refine ⟨_, _, _, hw, ?_⟩
                  refine vwp_region ?_
                  rcases Bool.eq_false_or_eq_true s9.2.2.1 with c24 | c24
                  · have hF := bifT c24 hF
                    refine vops_rd (rd_mvB rfl) rfl ?_
                    refine vops_rd (rd_mvB rfl) rfl ?_
                    refine vops_skip rfl rfl (neT c24) rfl ?_
                    refine vops_skip rfl rfl (neT c24) rfl ?_
                    refine vops_skip rfl rfl (neT c24) rfl ?_
                    refine vops_skip rfl rfl (neT c24) rfl ?_
                    refine vops_skip rfl rfl (neT c24) rfl ?_
                    refine vops_skip rfl rfl (neT c24) rfl ?_
                    refine vops_rd (rd_pickT (congrArg PV.bool c24) rfl) rfl ?_
                    refine vops_rd (rd_asB rfl) rfl ?_
                    refine vops_nil ?_
                    obtain rfl := Option.some.inj hF
                    refine onlyE ?_
                    exact weak_sub ⟨rfl, rfl, rfl, rfl, rfl, rfl, rfl, rfl, rfl, trivial⟩
                  · have hF := bifF c24 hF
                    refine vops_rd (rd_mvB rfl) rfl ?_
                    refine vops_rd (rd_mvB rfl) rfl ?_
                    refine vops_take rfl (congrArg PV.bool c24) ?_
                    refine vops_rd (rd_mvI rfl) rfl ?_
                    refine vops_take rfl (congrArg PV.bool c24) ?_
                    refine vops_rd (rd_mvI rfl) rfl ?_
                    refine vops_take rfl (congrArg PV.bool c24) ?_
                    refine vops_rd (rd_sub rfl rfl rfl) rfl ?_
                    refine vops_take rfl (congrArg PV.bool c24) ?_
                    refine vops_rd (rd_fieldAddr rfl tf_24_2 ts_3 (by decide)) rfl ?_
                    refine vops_take rfl (congrArg PV.bool c24) ?_
                    refine vops_rd (rd_load1 rfl (getO_N rfl rfl) rfl ta_3 rfl) rfl ?_
                    refine vops_take rfl (congrArg PV.bool c24) ?_
                    refine vops_rd (rd_geq rfl rfl) rfl ?_
                    refine vops_rd (rd_pickF (congrArg PV.bool c24) rfl) rfl ?_
                    refine vops_rd (rd_asB rfl) rfl ?_
                    refine vops_nil ?_
                    obtain rfl := Option.some.inj hF
                    refine onlyE ?_
                    exact weak_sub ⟨rfl, rfl, rfl, rfl, rfl, rfl, rfl, rfl, rfl, trivial⟩
              · have hF := bifF c21 hF
                refine vwp_seq ?_
                refine vwp_region ?_
                refine vops_rd (rd_mvB rfl) rfl ?_
                refine vops_rd (rd_not rfl) rfl ?_
                refine vops_rd (rd_asB rfl) rfl ?_
                refine vops_nil ?_
                refine vwp_cond rfl (fun c25 => ?_) (fun c25 => ?_)
                · have hF := bifT c25 hF
                  refine vwp_region ?_
                  refine vops_rd (rd_asI rfl) rfl ?_
                  refine vops_nil ?_
                  obtain rfl := Option.some.inj hF
                  refine onlyE ?_
                  exact weak_pick rfl [(0, 0), (1, 0), (3, 0)] (by decide) ⟨rn_ptr 0 0 rfl rfl, rn_ptr 1 1 rfl rfl, rn_low rfl (.int _ _), rn_low rfl (.int _ _), rn_low rfl (.bool _), rn_ptr 2 3 rfl rfl, rn_low rfl (.vs _ _), rn_low rfl (.int _ _), rn_low rfl (.int _ _), trivial⟩ ⟨⟨_, rfl, rfl, .same _ _ _ _ (ltObj_es ⟨(lt_agg ⟨.int _ _, .int _ _, .int _ _, trivial⟩), trivial⟩)⟩, ⟨_, rfl, rfl, .same _ _ _ _ (ltObj_es ⟨(lt_agg ⟨.bool _, .int _ _, .int _ _, trivial⟩), trivial⟩)⟩, ⟨_, rfl, rfl, .same _ _ _ _ (ltObj_es ⟨(lt_agg ⟨.bool _, .int _ _, .int _ _, trivial⟩), trivial⟩)⟩, trivial⟩
                · have hF := bifF c25 hF
                  refine vwp_skip ?_
                  obtain rfl := Option.some.inj hF
                  refine onlyE ?_
                  exact weak_pick rfl [(0, 0), (1, 0), (3, 0)] (by decide) ⟨rn_ptr 0 0 rfl rfl, rn_ptr 1 1 rfl rfl, rn_low rfl (.int _ _), rn_low rfl (.int _ _), rn_low rfl (.bool _), rn_ptr 2 3 rfl rfl, rn_low rfl (.vs _ _), rn_low rfl (.int _ _), rn_low rfl (.int _ _), trivial⟩ ⟨⟨_, rfl, rfl, .same _ _ _ _ (ltObj_es ⟨(lt_agg ⟨.int _ _, .int _ _, .int _ _, trivial⟩), trivial⟩)⟩, ⟨_, rfl, rfl, .same _ _ _ _ (ltObj_es ⟨(lt_agg ⟨.bool _, .int _ _, .int _ _, trivial⟩), trivial⟩)⟩, ⟨_, rfl, rfl, .same _ _ _ _ (ltObj_es ⟨(lt_agg ⟨.bool _, .int _ _, .int _ _, trivial⟩), trivial⟩)⟩, trivial⟩
          · rintro _ _ _ _ ⟨rfl, hw⟩
            refine ⟨_, _, _, hw, ?_⟩
            refine vwp_seq ?_
            refine vwp_seq ?_
            refine vwp_region ?_
            refine vops_rd (rd_fieldAddr rfl tf_26_0 ts_4 (by decide)) rfl ?_
            refine vops_rd (rd_load1 rfl (getO_N rfl rfl) rfl ta_4 rfl) rfl ?_
            refine vops_rd (rd_mvB rfl) rfl ?_
            refine vops_rd (rd_eqlB rfl rfl tbo_4) rfl ?_
            refine vops_nil ?_
            refine vwp_cond rfl (fun c26 => ?_) (fun c26 => ?_)
            · have hF := bifT c26 hF
              refine vwp_seq ?_
              refine vwp_region ?_
              refine vops_rd (rd_asB rfl) rfl ?_
              refine vops_nil ?_
              refine vwp_ret ?_
              obtain rfl := Option.some.inj hF
              refine onlyE ?_
              exact weak_pick rfl [] (by decide) ⟨rn_low rfl (.bool _), trivial⟩ trivial
            · have hF := bifF c26 hF
              refine vwp_skip ?_
              refine vwp_region ?_
              refine vops_rd (rd_loadN (ds := [.bool x16.1.Over, .int .i64 x16.1.Since, .int .i64 x16.1.Last]) rfl (getO_N rfl rfl) rfl ta_26 ts_26 rfl rfl rfl) rfl ?_
              refine vops_efE (vef_store (p := .agg [.bool x16.1.Over, .int .i64 x16.1.Since, .int .i64 x16.1.Last]) (e' := .agg [.bool x16.1.Over, .int .i64 x16.1.Since, .int .i64 x16.1.Last]) rfl (getO_N rfl rfl) rfl rfl ts_26 rfl (nt_ne rfl) rfl (Nat.le_of_ble_eq_true rfl) rfl (setO_N rfl rfl)) rfl ?_
              refine vops_nil ?_
              refine vwp_region ?_
              refine vops_rd (rd_add rfl rfl rfl) rfl ?_
              refine vops_rd (rd_mvI rfl) rfl ?_
              refine vops_nil ?_
              obtain rfl := Option.some.inj hF
              refine onlyE ?_
              exact weak_pick rfl [(0, 0), (1, 0)] (by decide) ⟨rn_ptr 0 0 rfl rfl, rn_ptr 1 1 rfl rfl, rn_low rfl (.int _ _), rn_low rfl (.int _ _), rn_low rfl (.bool _), rn_low rfl (.vs _ _), rn_low rfl (.int _ _), rn_low rfl (.int _ _), trivial⟩ ⟨⟨_, rfl, rfl, .same _ _ _ _ (ltObj_es ⟨(lt_agg ⟨.int _ _, .int _ _, .int _ _, trivial⟩), trivial⟩)⟩, ⟨_, rfl, rfl, .same _ _ _ _ (ltObj_es ⟨(lt_agg ⟨.bool _, .int _ _, .int _ _, trivial⟩), trivial⟩)⟩, trivial⟩
      · have hF := bifF c13 hF
        refine vwp_exit ?_
        obtain rfl := Option.some.inj hF
        refine onlyE ?_
        exact weak_pick rfl [] (by decide) trivial trivial
    · rcases o10 with j11 | j12
      · replace hF := elimL hF
        rintro _ _ _ _ ⟨rfl, hw⟩
        refine ⟨_, _, _, hw, ?_⟩
        obtain rfl := Option.some.inj hF
        refine fnR ?_
        exact weak_sub ⟨rfl, trivial⟩
      · replace hF := elimR hF
        rintro _ _ _ _ ⟨rfl, hw⟩
        refine ⟨_, _, _, hw, ?_⟩
        refine vwp_seq ?_
        refine vwp_region ?_
        obtain ⟨x27, h28, hF⟩ := bnd hF
        refine vops_efE (vef_callP rfl Try.call20 (F_law17_awake_ok h28 _)) rfl ?_
        refine vops_rd (rd_asB rfl) rfl ?_
        refine vops_nil ?_
        refine vwp_ret ?_
        obtain rfl := Option.some.inj hF
        refine fnR ?_
        exact weak_sub ⟨rfl, trivial⟩
  · rintro _ _ _ _ ⟨he, hw⟩
    refine ⟨_, _, _, hw, ?_⟩
    exact bodyQ_pure he [.bool r] ⟨rfl, trivial⟩ (.bool _) ⟨rfl, rfl⟩

theorem F_law17_LevelWider_ok {p0 : List Int} {p1 : List Int} {r : Bool} (hF : F_law17_LevelWider p0 p1 = some r) (low : List AObj) :
    VCalls Try.prog 7 [.vs 1 (List.map (PV.int .u8) p0), .vs 1 (List.map (PV.int .u8) p1)] low fun x low' => x = .bool r ∧ low' = low := by
  refine vcalls_of_body (nt := 92) (rs := [.tmp 4]) Try.func7 rfl rfl (Nat.le_of_ble_eq_true rfl) rfl ?_
  refine vwp_monoW (Q' := FnE (fun E' lw lc => Weak E' lw lc [(4, .bool r)] low [])) ?_ ?_
  · unfold F_law17_LevelWider at hF
    refine vwp_seq ?_
    refine vwp_region ?_
    refine vops_rd (rd_asB rfl) rfl ?_
    refine vops_nil ?_
    refine vwp_seq ?_
    refine vwp_region ?_
    obtain ⟨x1, h2, hF⟩ := bnd hF
    refine vops_rd (rd_mvV rfl) rfl ?_
    refine vops_efE (vef_callN (r := .ptr (low.length + 0) 0 0 0) (os := [⟨53, 2, [.agg [.vs 1 (List.map (PV.int .u8) x1.l), .int .i64 x1.at_]], 0⟩]) rfl Try.call9 (F_draw_New_ok h2 _ (len_app rfl rfl))) rfl ?_
    refine vops_rd (rd_asP rfl) rfl ?_
    refine vops_nil ?_
    refine vwp_seq ?_
    refine vwp_region ?_
    obtain ⟨x3, h4, hF⟩ := bnd hF
    refine vops_rd (rd_mvP rfl) rfl ?_
    refine vops_efE (vef_callMN (k := 0) (loc1 := [⟨53, 2, [.agg [.vs 1 (List.map (PV.int .u8) x3.1.l), .int .i64 x3.1.at_]], 0⟩]) rfl rfl Try.call10 (F_draw_Codes_Level_ok h4 (get_N rfl rfl)) rfl) rfl ?_
    refine vops_efE (vef_allocN rfl rfl tz_24 rfl rfl (Nat.succ_pos _) rfl) rfl ?_
    refine vops_efE (vef_store (p := .agg [.int .i64 x3.2.Cut, .int .i64 x3.2.Clear, .int .i64 x3.2.Delay]) (e' := .agg [.int .i64 x3.2.Cut, .int .i64 x3.2.Clear, .int .i64 x3.2.Delay]) rfl (getO_N rfl rfl) rfl rfl ts_24 rfl (nt_ne rfl) rfl (Nat.le_of_ble_eq_true rfl) rfl (setO_N rfl rfl)) rfl ?_
    refine vops_nil ?_
    refine vwp_seq ?_
    refine vwp_region ?_
    obtain ⟨x5, h6, hF⟩ := bnd hF
    obtain ⟨x7, h8, hF⟩ := bnd hF
    refine vops_efE (vef_callP rfl Try.call14 (F_level_Begin_ok h6 _)) rfl ?_
    refine vops_efE (vef_callP rfl Try.call14 (F_level_Begin_ok h8 _)) rfl ?_
    refine vops_efE (vef_allocN rfl rfl tz_26 rfl rfl (Nat.succ_pos _) rfl) rfl ?_
    refine vops_efE (vef_allocN rfl rfl tz_26 rfl rfl (Nat.succ_pos _) rfl) rfl ?_
    refine vops_efE (vef_store (p := .agg [.bool x5.Over, .int .i64 x5.Since, .int .i64 x5.Last]) (e' := .agg [.bool x5.Over, .int .i64 x5.Since, .int .i64 x5.Last]) rfl (getO_N rfl rfl) rfl rfl ts_26 rfl (nt_ne rfl) rfl (Nat.le_of_ble_eq_true rfl) rfl (setO_N rfl rfl)) rfl ?_
    refine vops_efE (vef_store (p := .agg [.bool x7.Over, .int .i64 x7.Since, .int .i64 x7.Last]) (e' := .agg [.bool x7.Over, .int .i64 x7.Since, .int .i64 x7.Last]) rfl (getO_N rfl rfl) rfl rfl ts_26 rfl (nt_ne rfl) rfl (Nat.le_of_ble_eq_true rfl) rfl (setO_N rfl rfl)) rfl ?_
    refine vops_nil ?_
    refine vwp_seq ?_
    refine vwp_region ?_
    refine vops_rd (rd_asI rfl) rfl ?_
    refine vops_nil ?_
    refine vwp_seq ?_
    refine vwp_seq ?_
    refine vwp_region ?_
    obtain ⟨x9, h10, hF⟩ := bnd hF
    refine vops_rd (rd_mvP rfl) rfl ?_
    refine vops_rd (rd_loadN (ds := [.int .i64 x3.2.Cut, .int .i64 x3.2.Clear, .int .i64 x3.2.Delay]) rfl (getO_N rfl rfl) rfl ta_24 ts_24 rfl rfl rfl) rfl ?_
    refine vops_efE (vef_callMN (k := 0) (loc1 := [⟨53, 2, [.agg [.vs 1 (List.map (PV.int .u8) x9.1.l), .int .i64 x9.1.at_]], 0⟩, ⟨24, 3, [.agg [.int .i64 x3.2.Cut, .int .i64 x3.2.Clear, .int .i64 x3.2.Delay]], 0⟩, ⟨26, 3, [.agg [.bool x5.Over, .int .i64 x5.Since, .int .i64 x5.Last]], 0⟩, ⟨26, 3, [.agg [.bool x7.Over, .int .i64 x7.Since, .int .i64 x7.Last]], 0⟩]) rfl rfl Try.call23 (F_law17_story_ok h10 (get_N rfl rfl)) rfl) rfl ?_
    refine vops_rd (rd_to (rd_lenV rfl rfl te_45) (congrArg (fun n : Nat => PV.int .i64 (n : Int)) (List.length_map _))) rfl ?_
    refine vops_rd (rd_mvI rfl) rfl ?_
    refine vops_nil ?_
    refine vwp_block ?_
    obtain ⟨o12, ho12, hF⟩ := bnd hF
    refine vwp_monoW (vwp_loopC (F_law17_LevelWider_L1 p1 x3 x9) (fun s11 E' lw lc => Weak E' lw lc [(1, .vs 1 (List.map (PV.int .u8) p1)), (6, .ptr (low.length + 0) 0 0 0), (7, .ptr (low.length + 1) 0 0 0), (8, .ptr (low.length + 2) 0 0 0), (9, .int .i64 s11.1), (25, .vs 3 (List.map T_law17_seen.enc x9.2)), (26, .int .i64 ((x9.2).length : Int)), (27, .int .i64 s11.2.1)] low [⟨24, 3, [.agg [.int .i64 x3.2.Cut, .int .i64 x3.2.Clear, .int .i64 x3.2.Delay]], 0⟩, ⟨26, 3, [.agg [.bool s11.2.2.1.Over, .int .i64 s11.2.2.1.Since, .int .i64 s11.2.2.1.Last]], 0⟩, ⟨26, 3, [.agg [.bool s11.2.2.2.Over, .int .i64 s11.2.2.2.Since, .int .i64 s11.2.2.2.Last]], 0⟩]) (Sum.elim (fun j13 => OnlyE .ret (fun E' lw lc => Weak E' lw lc [(4, .bool false)] low [])) (fun j14 => OnlyE (.exit 0) (fun E' lw lc => Weak E' lw lc [] low []))) ho12 ?_ (by rintro (_|_) _ _ _ ⟨h, _⟩ <;> cases h) ?_) ?_
    · exact weak_pick rfl [(1, 0), (2, 0), (3, 0)] (by decide) ⟨rn_low rfl (.vs _ _), rn_ptr 0 1 rfl rfl, rn_ptr 1 2 rfl rfl, rn_ptr 2 3 rfl rfl, rn_low rfl (.int _ _), rn_low rfl (.vs _ _), rn_low rfl (.int _ _), rn_low rfl (.int _ _), trivial⟩ ⟨⟨_, rfl, rfl, .same _ _ _ _ (ltObj_es ⟨(lt_agg ⟨.int _ _, .int _ _, .int _ _, trivial⟩), trivial⟩)⟩, ⟨_, rfl, rfl, .same _ _ _ _ (ltObj_es ⟨(lt_agg ⟨.bool _, .int _ _, .int _ _, trivial⟩), trivial⟩)⟩, ⟨_, rfl, rfl, .same _ _ _ _ (ltObj_es ⟨(lt_agg ⟨.bool _, .int _ _, .int _ _, trivial⟩), trivial⟩)⟩, trivial⟩
    · rintro s11 os11 _ _ _ hF hw
      unfold F_law17_LevelWider_L1 at hF
      refine vwp_weak hw ?_
      refine vwp_seq ?_
      refine vwp_region ?_
      refine vops_rd (rd_lss rfl rfl) rfl ?_
      refine vops_nil ?_
      refine vwp_seq ?_
      refine vwp_cond rfl (fun c15 => ?_) (fun c15 => ?_)
      · have hF := bifT c15 hF
        refine vwp_skip ?_
        refine vwp_seq ?_
        refine vwp_block ?_
        refine vwp_seq ?_
        refine vwp_region ?_
        obtain ⟨x16, h17, hF⟩ := bnd hF
        refine vops_rd (rd_mvI rfl) rfl ?_
        refine vops_rd (rd_to (rd_ixV rfl rfl h17 te_45 ts_48) (v' := .vptr [.int .i64 x16.wait, .int .i64 x16.low, .int .i64 x16.high] 0) rfl) rfl ?_
        refine vops_rd (rd_loadVN (ds := [.int .i64 x16.wait, .int .i64 x16.low, .int .i64 x16.high]) rfl ta_48 ts_48 rfl rfl) rfl ?_
        refine vops_efE (vef_allocN rfl rfl tz_48 rfl rfl (Nat.succ_pos _) rfl) rfl ?_
        refine vops_rd (rd_asI rfl) rfl ?_
        refine vops_efE (vef_store (p := .agg [.int .i64 x16.wait, .int .i64 x16.low, .int .i64 x16.high]) (e' := .agg [.int .i64 x16.wait, .int .i64 x16.low, .int .i64 x16.high]) rfl (getO_N rfl rfl) rfl rfl ts_48 rfl (nt_ne rfl) rfl (Nat.le_of_ble_eq_true rfl) rfl (setO_N rfl rfl)) rfl ?_
        refine vops_nil ?_
        refine vwp_seq ?_
        refine vwp_region ?_
        refine vops_rd (rd_mvI rfl) rfl ?_
        refine vops_rd (rd_fieldAddr rfl tf_48_0 ts_3 (by decide)) rfl ?_
        refine vops_rd (rd_load1 rfl (getO_N rfl rfl) rfl ta_3 rfl) rfl ?_
        refine vops_rd (rd_add rfl rfl rfl) rfl ?_
        refine vops_rd (rd_asI rfl) rfl ?_
        refine vops_nil ?_
        refine vwp_seq ?_
        refine vwp_region ?_
        refine vops_rd (rd_asI rfl) rfl ?_
        refine vops_nil ?_
        refine vwp_seq ?_
        refine vwp_seq ?_
        refine vwp_region ?_
        refine vops_rd (rd_mvI rfl) rfl ?_
        refine vops_rd (rd_mvV rfl) rfl ?_
        refine vops_rd (rd_to (rd_lenV rfl rfl te_22) (congrArg (fun n : Nat => PV.int .i64 (n : Int)) (List.length_map _))) rfl ?_
        refine vops_rd (rd_lss rfl rfl) rfl ?_
        refine vops_nil ?_
        obtain ⟨o18, ho18, hF⟩ := bnd hF
        refine vwp_monoW (Q' := (fun o18 => OnlyE .normal (fun E' lw lc => Weak E' lw lc [(1, .vs 1 (List.map (PV.int .u8) p1)), (6, .ptr (low.length + 0) 0 0 0), (7, .ptr (low.length + 1) 0 0 0), (8, .ptr (low.length + 2) 0 0 0), (9, .int .i64 (IntKind.i64.wrap (s11.1 + x16.wait))), (11, .ptr (low.length + 3) 0 0 0), (12, .int .i64 o18), (25, .vs 3 (List.map T_law17_seen.enc x9.2)), (26, .int .i64 ((x9.2).length : Int)), (27, .int .i64 s11.2.1)] low [⟨24, 3, [.agg [.int .i64 x3.2.Cut, .int .i64 x3.2.Clear, .int .i64 x3.2.Delay]], 0⟩, ⟨26, 3, [.agg [.bool s11.2.2.1.Over, .int .i64 s11.2.2.1.Since, .int .i64 s11.2.2.1.Last]], 0⟩, ⟨26, 3, [.agg [.bool s11.2.2.2.Over, .int .i64 s11.2.2.2.Since, .int .i64 s11.2.2.2.Last]], 0⟩, ⟨48, 3, [.agg [.int .i64 x16.wait, .int .i64 x16.low, .int .i64 x16.high]], 0⟩])) o18) ?_ ?_
        · replace hF := ho18
          refine vwp_cond rfl (fun c19 => ?_) (fun c19 => ?_)
          · have hF := bifT c19 hF
            refine vwp_region ?_
            obtain ⟨x20, h21, hF⟩ := bnd hF
            refine vops_rd (rd_mvV rfl) rfl ?_
            refine vops_rd (rd_mvI rfl) rfl ?_
            refine vops_rd (rd_to (rd_ixV rfl rfl h21 te_22 ts_5) (v' := .vptr [.int .u8 x20] 0) rfl) rfl ?_
            refine vops_rd (rd_loadV1 rfl ta_5 rfl) rfl ?_
            refine vops_rd (rd_conv rfl us_5 ti_3 rfl) rfl ?_
            refine vops_rd (rd_asI rfl) rfl ?_
            refine vops_nil ?_
            obtain rfl := Option.some.inj hF
            refine onlyE ?_
            exact weak_sub ⟨rfl, rfl, rfl, rfl, rfl, rfl, rfl, rfl, rfl, rfl, trivial⟩
          · have hF := bifF c19 hF
            refine vwp_skip ?_
            obtain rfl := Option.some.inj hF
            refine onlyE ?_
            exact weak_sub ⟨rfl, rfl, rfl, rfl, rfl, rfl, rfl, rfl, rfl, rfl, trivial⟩
        · rintro _ _ _ _ ⟨rfl, hw⟩
          refine ⟨_, _, _, hw, ?_⟩
          refine vwp_seq ?_
          refine vwp_region ?_
          obtain ⟨x22, h23, hF⟩ := bnd hF
          refine vops_rd (rd_loadN (ds := [.int .i64 x3.2.Cut, .int .i64 x3.2.Clear, .int .i64 x3.2.Delay]) rfl (getO_N rfl rfl) rfl ta_24 ts_24 rfl rfl rfl) rfl ?_
          refine vops_rd (rd_loadN (ds := [.bool s11.2.2.1.Over, .int .i64 s11.2.2.1.Since, .int .i64 s11.2.2.1.Last]) rfl (getO_N rfl rfl) rfl ta_26 ts_26 rfl rfl rfl) rfl ?_
          refine vops_rd (rd_fieldAddr rfl tf_48_1 ts_3 (by decide)) rfl ?_
          refine vops_rd (rd_load1 rfl (getO_N rfl rfl) rfl ta_3 rfl) rfl ?_
          refine vops_rd (rd_fieldAddr rfl tf_48_2 ts_3 (by decide)) rfl ?_
          refine vops_rd (rd_load1 rfl (getO_N rfl rfl) rfl ta_3 rfl) rfl ?_
          refine vops_rd (rd_build (vs := [(0, .int .i64 x16.low), (1, .int .i64 x16.high)]) (ds := [.int .i64 x16.low, .int .i64 x16.high]) tz_28 rfl rfl tp_28 ⟨rfl, rfl, rfl, rfl, trivial⟩ (nt_all2 rfl) rfl) rfl ?_
          refine vops_rd (rd_mvI rfl) rfl ?_
          refine vops_efE (vef_callP rfl Try.call15 (F_level_Step_ok h23 _)) rfl ?_
          refine vops_rd (rd_mvT rfl) rfl ?_
          refine vops_rd (rd_extract rfl rfl) rfl ?_
          refine vops_rd (rd_extract rfl rfl) rfl ?_
          refine vops_efE (vef_allocN rfl rfl tz_26 rfl rfl (Nat.succ_pos _) rfl) rfl ?_
          refine vops_efE (vef_store (p := .agg [.bool x22.1.Over, .int .i64 x22.1.Since, .int .i64 x22.1.Last]) (e' := .agg [.bool x22.1.Over, .int .i64 x22.1.Since, .int .i64 x22.1.Last]) rfl (getO_N rfl rfl) rfl rfl ts_26 rfl (nt_ne rfl) rfl (Nat.le_of_ble_eq_true rfl) rfl (setO_N rfl rfl)) rfl ?_
          refine vops_rd (rd_asI rfl) rfl ?_
          refine vops_nil ?_
          refine vwp_seq ?_
          refine vwp_region ?_
          obtain ⟨x24, h25, hF⟩ := bnd hF
          refine vops_rd (rd_loadN (ds := [.int .i64 x3.2.Cut, .int .i64 x3.2.Clear, .int .i64 x3.2.Delay]) rfl (getO_N rfl rfl) rfl ta_24 ts_24 rfl rfl rfl) rfl ?_
          refine vops_rd (rd_loadN (ds := [.bool s11.2.2.2.Over, .int .i64 s11.2.2.2.Since, .int .i64 s11.2.2.2.Last]) rfl (getO_N rfl rfl) rfl ta_26 ts_26 rfl rfl rfl) rfl ?_
          refine vops_rd (rd_fieldAddr rfl tf_48_1 ts_3 (by decide)) rfl ?_
          refine vops_rd (rd_load1 rfl (getO_N rfl rfl) rfl ta_3 rfl) rfl ?_
          refine vops_rd (rd_mvI rfl) rfl ?_
          refine vops_rd (rd_sub rfl rfl rfl) rfl ?_
          refine vops_rd (rd_fieldAddr rfl tf_48_2 ts_3 (by decide)) rfl ?_
          refine vops_rd (rd_load1 rfl (getO_N rfl rfl) rfl ta_3 rfl) rfl ?_
          refine vops_rd (rd_mvI rfl) rfl ?_
          refine vops_rd (rd_add rfl rfl rfl) rfl ?_
          refine vops_rd (rd_build (vs := [(0, .int .i64 (IntKind.i64.wrap (x16.low - o18))), (1, .int .i64 (IntKind.i64.wrap (x16.high + o18)))]) (ds := [.int .i64 (IntKind.i64.wrap (x16.low - o18)), .int .i64 (IntKind.i64.wrap (x16.high + o18))]) tz_28 rfl rfl tp_28 ⟨rfl, rfl, rfl, rfl, trivial⟩ (nt_all2 rfl) rfl) rfl ?_
          refine vops_rd (rd_mvI rfl) rfl ?_
          refine vops_efE (vef_callP rfl Try.call15 (F_level_Step_ok h25 _)) rfl ?_
          refine vops_rd (rd_mvT rfl) rfl ?_
          refine vops_rd (rd_extract rfl rfl) rfl ?_
          refine vops_rd (rd_extract rfl rfl) rfl ?_
          refine vops_efE (vef_allocN rfl rfl tz_26 rfl rfl (Nat.succ_pos _) rfl) rfl ?_
          refine vops_efE (vef_store (p := .agg [.bool x24.1.Over, .int .i64 x24.1.Since, .int .i64 x24.1.Last]) (e' := .agg [.bool x24.1.Over, .int .i64 x24.1.Since, .int .i64 x24.1.Last]) rfl (getO_N rfl rfl) rfl rfl ts_26 rfl (nt_ne rfl) rfl (Nat.le_of_ble_eq_true rfl) rfl (setO_N rfl rfl)) rfl ?_
          refine vops_rd (rd_asI rfl) rfl ?_
          refine vops_nil ?_
          refine vwp_seq ?_
          refine vwp_seq ?_
          obtain ⟨o26, ho26, hF⟩ := bnd hF
          refine vwp_monoW (Q' := (fun o26 => OnlyE .normal (fun E' lw lc => Weak E' lw lc [(1, .vs 1 (List.map (PV.int .u8) p1)), (6, .ptr (low.length + 0) 0 0 0), (7, .ptr (low.length + 1) 0 0 0), (8, .ptr (low.length + 2) 0 0 0), (9, .int .i64 (IntKind.i64.wrap (s11.1 + x16.wait))), (13, .ptr (low.length + 3) 0 0 0), (15, .ptr (low.length + 4) 0 0 0), (25, .vs 3 (List.map T_law17_seen.enc x9.2)), (26, .int .i64 ((x9.2).length : Int)), (27, .int .i64 s11.2.1), (87, .bool o26)] low [⟨24, 3, [.agg [.int .i64 x3.2.Cut, .int .i64 x3.2.Clear, .int .i64 x3.2.Delay]], 0⟩, ⟨26, 3, [.agg [.bool s11.2.2.1.Over, .int .i64 s11.2.2.1.Since, .int .i64 s11.2.2.1.Last]], 0⟩, ⟨26, 3, [.agg [.bool s11.2.2.2.Over, .int .i64 s11.2.2.2.Since, .int .i64 s11.2.2.2.Last]], 0⟩, ⟨26, 3, [.agg [.bool x22.1.Over, .int .i64 x22.1.Since, .int .i64 x22.1.Last]], 0⟩, ⟨26, 3, [.agg [.bool x24.1.Over, .int .i64 x24.1.Since, .int .i64 x24.1.Last]], 0⟩])) o26) ?_ ?_
          · replace hF := ho26
            refine vwp_region ?_
            rcases Bool.eq_false_or_eq_true (decide (x22.2 ≠ 0)) with c27 | c27
            · have hF := bifT c27 hF
              refine vops_rd (rd_mvI rfl) rfl ?_
              refine vops_rd (rd_neq rfl rfl) rfl ?_
              refine vops_rd (rd_mvB rfl) rfl ?_
              refine vops_skip rfl rfl (neT c27) rfl ?_
              refine vops_skip rfl rfl (neT c27) rfl ?_
              refine vops_rd (rd_pickT (congrArg PV.bool c27) rfl) rfl ?_
              refine vops_rd (rd_mvB rfl) rfl ?_
              refine vops_skip rfl rfl (by decide) rfl ?_
              refine vops_skip rfl rfl (by decide) rfl ?_
              refine vops_skip rfl rfl (by decide) rfl ?_
              refine vops_skipX rfl rfl rfl ?_
              refine vops_skipX rfl rfl rfl ?_
              refine vops_skipX rfl rfl rfl ?_
              refine vops_skip rfl rfl (by decide) rfl ?_
              refine vops_rd (rd_pickT rfl rfl) rfl ?_
              refine vops_nil ?_
              obtain rfl := Option.some.inj hF
              refine onlyE ?_
              exact weak_pick rfl [(0, 0), (1, 0), (2, 0), (4, 0), (5, 0)] (by decide) ⟨rn_low rfl (.vs _ _), rn_ptr 0 0 rfl rfl, rn_ptr 1 1 rfl rfl, rn_ptr 2 2 rfl rfl, rn_low rfl (.int _ _), rn_ptr 3 4 rfl rfl, rn_ptr 4 5 rfl rfl, rn_low rfl (.vs _ _), rn_low rfl (.int _ _), rn_low rfl (.int _ _), rn_low rfl (.bool _), trivial⟩ ⟨⟨_, rfl, rfl, .same _ _ _ _ (ltObj_es ⟨(lt_agg ⟨.int _ _, .int _ _, .int _ _, trivial⟩), trivial⟩)⟩, ⟨_, rfl, rfl, .same _ _ _ _ (ltObj_es ⟨(lt_agg ⟨.bool _, .int _ _, .int _ _, trivial⟩), trivial⟩)⟩, ⟨_, rfl, rfl, .same _ _ _ _ (ltObj_es ⟨(lt_agg ⟨.bool _, .int _ _, .int _ _, trivial⟩), trivial⟩)⟩, ⟨_, rfl, rfl, .same _ _ _ _ (ltObj_es ⟨(lt_agg ⟨.bool _, .int _ _, .int _ _, trivial⟩), trivial⟩)⟩, ⟨_, rfl, rfl, .same _ _ _ _ (ltObj_es ⟨(lt_agg ⟨.bool _, .int _ _, .int _ _, trivial⟩), trivial⟩)⟩, trivial⟩
            · have hF := bifF c27 hF
              rcases Bool.eq_false_or_eq_true (decide (x24.2 ≠ 0)) with c28 | c28
              · have hF := bifT c28 hF
                refine vops_rd (rd_mvI rfl) rfl ?_
                refine vops_rd (rd_neq rfl rfl) rfl ?_
                refine vops_rd (rd_mvB rfl) rfl ?_
                refine vops_take rfl (congrArg PV.bool c27) ?_
                refine vops_rd (rd_mvI rfl) rfl ?_
                refine vops_take rfl (congrArg PV.bool c27) ?_
                refine vops_rd (rd_neq rfl rfl) rfl ?_
                refine vops_rd (rd_pickF (congrArg PV.bool c27) rfl) rfl ?_
                refine vops_rd (rd_mvB rfl) rfl ?_
                refine vops_skip rfl rfl (neT c28) rfl ?_
                refine vops_skip rfl rfl (neT c28) rfl ?_
                refine vops_skip rfl rfl (neT c28) rfl ?_
                refine vops_skipX rfl rfl rfl ?_
                refine vops_skipX rfl rfl rfl ?_
                refine vops_skipX rfl rfl rfl ?_
                refine vops_skip rfl rfl (neT c28) rfl ?_
                refine vops_rd (rd_pickT (congrArg PV.bool c28) rfl) rfl ?_
                refine vops_nil ?_
                obtain rfl := Option.some.inj hF
                refine onlyE ?_
                exact weak_pick rfl [(0, 0), (1, 0), (2, 0), (4, 0), (5, 0)] (by decide) ⟨rn_low rfl (.vs _ _), rn_ptr 0 0 rfl rfl, rn_ptr 1 1 rfl rfl, rn_ptr 2 2 rfl rfl, rn_low rfl (.int _ _), rn_ptr 3 4 rfl rfl, rn_ptr 4 5 rfl rfl, rn_low rfl (.vs _ _), rn_low rfl (.int _ _), rn_low rfl (.int _ _), rn_low rfl (.bool _), trivial⟩ ⟨⟨_, rfl, rfl, .same _ _ _ _ (ltObj_es ⟨(lt_agg ⟨.int _ _, .int _ _, .int _ _, trivial⟩), trivial⟩)⟩, ⟨_, rfl, rfl, .same _ _ _ _ (ltObj_es ⟨(lt_agg ⟨.bool _, .int _ _, .int _ _, trivial⟩), trivial⟩)⟩, ⟨_, rfl, rfl, .same _ _ _ _ (ltObj_es ⟨(lt_agg ⟨.bool _, .int _ _, .int _ _, trivial⟩), trivial⟩)⟩, ⟨_, rfl, rfl, .same _ _ _ _ (ltObj_es ⟨(lt_agg ⟨.bool _, .int _ _, .int _ _, trivial⟩), trivial⟩)⟩, ⟨_, rfl, rfl, .same _ _ _ _ (ltObj_es ⟨(lt_agg ⟨.bool _, .int _ _, .int _ _, trivial⟩), trivial⟩)⟩, trivial⟩
              · have hF := bifF c28 hF
                rcases Bool.eq_false_or_eq_true x22.1.Over with c29 | c29
                · have hF := bifT c29 hF
                  refine vops_rd (rd_mvI rfl) rfl ?_
                  refine vops_rd (rd_neq rfl rfl) rfl ?_
                  refine vops_rd (rd_mvB rfl) rfl ?_
                  refine vops_take rfl (congrArg PV.bool c27) ?_
                  refine vops_rd (rd_mvI rfl) rfl ?_
                  refine vops_take rfl (congrArg PV.bool c27) ?_
                  refine vops_rd (rd_neq rfl rfl) rfl ?_
                  refine vops_rd (rd_pickF (congrArg PV.bool c27) rfl) rfl ?_
                  refine vops_rd (rd_mvB rfl) rfl ?_
                  refine vops_take rfl (congrArg PV.bool c28) ?_
                  refine vops_rd (rd_fieldAddr rfl tf_26_0 ts_4 (by decide)) rfl ?_
                  refine vops_take rfl (congrArg PV.bool c28) ?_
                  refine vops_rd (rd_load1 rfl (getO_N rfl rfl) rfl ta_4 rfl) rfl ?_
                  refine vops_take rfl (congrArg PV.bool c28) ?_
                  refine vops_rd (rd_mvB rfl) rfl ?_
                  refine vops_take rfl (congrArg PV.bool c29) ?_
                  refine vops_rd (rd_fieldAddr rfl tf_26_0 ts_4 (by decide)) rfl ?_
                  refine vops_take rfl (congrArg PV.bool c29) ?_
                  refine vops_rd (rd_load1 rfl (getO_N rfl rfl) rfl ta_4 rfl) rfl ?_
                  refine vops_take rfl (congrArg PV.bool c29) ?_
                  refine vops_rd (rd_not rfl) rfl ?_
                  refine vops_take rfl (congrArg PV.bool c28) ?_
                  refine vops_rd (rd_pickT (congrArg PV.bool c29) rfl) rfl ?_
                  refine vops_rd (rd_pickF (congrArg PV.bool c28) rfl) rfl ?_
                  refine vops_nil ?_
                  obtain rfl := Option.some.inj hF
                  refine onlyE ?_
                  exact weak_pick rfl [(0, 0), (1, 0), (2, 0), (4, 0), (5, 0)] (by decide) ⟨rn_low rfl (.vs _ _), rn_ptr 0 0 rfl rfl, rn_ptr 1 1 rfl rfl, rn_ptr 2 2 rfl rfl, rn_low rfl (.int _ _), rn_ptr 3 4 rfl rfl, rn_ptr 4 5 rfl rfl, rn_low rfl (.vs _ _), rn_low rfl (.int _ _), rn_low rfl (.int _ _), rn_low rfl (.bool _), trivial⟩ ⟨⟨_, rfl, rfl, .same _ _ _ _ (ltObj_es ⟨(lt_agg ⟨.int _ _, .int _ _, .int _ _, trivial⟩), trivial⟩)⟩, ⟨_, rfl, rfl, .same _ _ _ _ (ltObj_es ⟨(lt_agg ⟨.bool _, .int _ _, .int _ _, trivial⟩), trivial⟩)⟩, ⟨_, rfl, rfl, .same _ _ _ _ (ltObj_es ⟨(lt_agg ⟨.bool _, .int _ _, .int _ _, trivial⟩), trivial⟩)⟩, ⟨_, rfl, rfl, .same _ _ _ _ (ltObj_es ⟨(lt_agg ⟨.bool _, .int _ _, .int _ _, trivial⟩), trivial⟩)⟩, ⟨_, rfl, rfl, .same _ _ _ _ (ltObj_es ⟨(lt_agg ⟨.bool _, .int _ _, .int _ _, trivial⟩), trivial⟩)⟩, trivial⟩
                · have hF := bifF c29 hF
                  refine vops_rd (rd_mvI rfl) rfl ?_
                  refine vops_rd (rd_neq rfl rfl) rfl ?_
                  refine vops_rd (rd_mvB rfl) rfl ?_
                  refine vops_take rfl (congrArg PV.bool c27) ?_
                  refine vops_rd (rd_mvI rfl) rfl ?_
                  refine vops_take rfl (congrArg PV.bool c27) ?_
                  refine vops_rd (rd_neq rfl rfl) rfl ?_
                  refine vops_rd (rd_pickF (congrArg PV.bool c27) rfl) rfl ?_
                  refine vops_rd (rd_mvB rfl) rfl ?_
                  refine vops_take rfl (congrArg PV.bool c28) ?_
                  refine vops_rd (rd_fieldAddr rfl tf_26_0 ts_4 (by decide)) rfl ?_
                  refine vops_take rfl (congrArg PV.bool c28) ?_
                  refine vops_rd (rd_load1 rfl (getO_N rfl rfl) rfl ta_4 rfl) rfl ?_
                  refine vops_take rfl (congrArg PV.bool c28) ?_
                  refine vops_rd (rd_mvB rfl) rfl ?_
                  refine vops_skip rfl rfl (neF c29) rfl ?_
                  refine vops_skip rfl rfl (neF c29) rfl ?_
                  refine vops_skip rfl rfl (neF c29) rfl ?_
                  refine vops_take rfl (congrArg PV.bool c28) ?_
                  refine vops_rd (rd_pickF (congrArg PV.bool c29) rfl) rfl ?_
                  refine vops_rd (rd_pickF (congrArg PV.bool c28) rfl) rfl ?_
                  refine vops_nil ?_
                  obtain rfl := Option.some.inj hF
                  refine onlyE ?_
                  exact weak_pick rfl [(0, 0), (1, 0), (2, 0), (4, 0), (5, 0)] (by decide) ⟨rn_low rfl (.vs _ _), rn_ptr 0 0 rfl rfl, rn_ptr 1 1 rfl rfl, rn_ptr 2 2 rfl rfl, rn_low rfl (.int _ _), rn_ptr 3 4 rfl rfl, rn_ptr 4 5 rfl rfl, rn_low rfl (.vs _ _), rn_low rfl (.int _ _), rn_low rfl (.int _ _), rn_low rfl (.bool _), trivial⟩ ⟨⟨_, rfl, rfl, .same _ _ _ _ (ltObj_es ⟨(lt_agg ⟨.int _ _, .int _ _, .int _ _, trivial⟩), trivial⟩)⟩, ⟨_, rfl, rfl, .same _ _ _ _ (ltObj_es ⟨(lt_agg ⟨.bool _, .int _ _, .int _ _, trivial⟩), trivial⟩)⟩, ⟨_, rfl, rfl, .same _ _ _ _ (ltObj_es ⟨(lt_agg ⟨.bool _, .int _ _, .int _ _, trivial⟩), trivial⟩)⟩, ⟨_, rfl, rfl, .same _ _ _ _ (ltObj_es ⟨(lt_agg ⟨.bool _, .int _ _, .int _ _, trivial⟩), trivial⟩)⟩, ⟨_, rfl, rfl, .same _ _ _ _ (ltObj_es ⟨(lt_agg ⟨.bool _, .int _ _, .int _ _, trivial⟩), trivial⟩)⟩, trivial⟩
          · rintro _ _ _ _ ⟨rfl, hw⟩
            refine ⟨_, _, _, hw, ?_⟩
            refine vwp_cond rfl (fun c30 => ?_) (fun c30 => ?_)
            · have hF := bifT c30 hF
              refine vwp_seq ?_
              refine vwp_region ?_
              refine vops_rd (rd_asB rfl) rfl ?_
              refine vops_nil ?_
              refine vwp_ret ?_
              obtain rfl := Option.some.inj hF
              refine onlyE ?_
              exact weak_pick rfl [] (by decide) ⟨rn_low rfl (.bool _), trivial⟩ trivial
            · have hF := bifF c30 hF
              refine vwp_skip ?_
              refine vwp_drawn [[], [], [0], [0, 1, 2]] [false, false, true, true] [(low, [⟨24, 3, [.agg [.int .i64 x3.2.Cut, .int .i64 x3.2.Clear, .int .i64 x3.2.Delay]], 0⟩, ⟨26, 3, [.agg [.bool s11.2.2.1.Over, .int .i64 s11.2.2.1.Since, .int .i64 s11.2.2.1.Last]], 0⟩, ⟨26, 3, [.agg [.bool s11.2.2.2.Over, .int .i64 s11.2.2.2.Since, .int .i64 s11.2.2.2.Last]], 0⟩, ⟨26, 3, [.agg [.bool x22.1.Over, .int .i64 x22.1.Since, .int .i64 x22.1.Last]], 0⟩, ⟨26, 3, [.agg [.bool x24.1.Over, .int .i64 x24.1.Since, .int .i64 x24.1.Last]], 0⟩]), (low, [⟨24, 3, [.agg [.int .i64 x3.2.Cut, .int .i64 x3.2.Clear, .int .i64 x3.2.Delay]], 0⟩, ⟨26, 3, [.agg [.bool x22.1.Over, .int .i64 x22.1.Since, .int .i64 x22.1.Last]], 0⟩, ⟨26, 3, [.agg [.bool s11.2.2.2.Over, .int .i64 s11.2.2.2.Since, .int .i64 s11.2.2.2.Last]], 0⟩, ⟨26, 3, [.agg [.bool x22.1.Over, .int .i64 x22.1.Since, .int .i64 x22.1.Last]], 0⟩, ⟨26, 3, [.agg [.bool x24.1.Over, .int .i64 x24.1.Since, .int .i64 x24.1.Last]], 0⟩]), (low, [⟨24, 3, [.agg [.int .i64 x3.2.Cut, .int .i64 x3.2.Clear, .int .i64 x3.2.Delay]], 0⟩, ⟨26, 3, [.agg [.bool x22.1.Over, .int .i64 x22.1.Since, .int .i64 x22.1.Last]], 0⟩, ⟨26, 3, [.agg [.bool x24.1.Over, .int .i64 x24.1.Since, .int .i64 x24.1.Last]], 0⟩, ⟨26, 3, [.agg [.bool x22.1.Over, .int .i64 x22.1.Since, .int .i64 x22.1.Last]], 0⟩, ⟨26, 3, [.agg [.bool x24.1.Over, .int .i64 x24.1.Since, .int .i64 x24.1.Last]], 0⟩])] mixed (by kernel_rfl) rfl (lenAll (all1 rfl (all1 rfl (all1 rfl all0)))) rfl (low, [⟨24, 3, [.agg [.int .i64 x3.2.Cut, .int .i64 x3.2.Clear, .int .i64 x3.2.Delay]], 0⟩, ⟨26, 3, [.agg [.bool x22.1.Over, .int .i64 x22.1.Since, .int .i64 x22.1.Last]], 0⟩, ⟨26, 3, [.agg [.bool x24.1.Over, .int .i64 x24.1.Since, .int .i64 x24.1.Last]], 0⟩, ⟨26, 3, [.agg [.bool x22.1.Over, .int .i64 x22.1.Since, .int .i64 x22.1.Last]], 0⟩, ⟨26, 3, [.agg [.bool x24.1.Over, .int .i64 x24.1.Since, .int .i64 x24.1.Last]], 0⟩]) rfl rfl ?_
              refine dops_rdW [(low, [⟨24, 3, [.agg [.int .i64 x3.2.Cut, .int .i64 x3.2.Clear, .int .i64 x3.2.Delay]], 0⟩, ⟨26, 3, [.agg [.bool s11.2.2.1.Over, .int .i64 s11.2.2.1.Since, .int .i64 s11.2.2.1.Last]], 0⟩, ⟨26, 3, [.agg [.bool s11.2.2.2.Over, .int .i64 s11.2.2.2.Since, .int .i64 s11.2.2.2.Last]], 0⟩, ⟨26, 3, [.agg [.bool x22.1.Over, .int .i64 x22.1.Since, .int .i64 x22.1.Last]], 0⟩, ⟨26, 3, [.agg [.bool x24.1.Over, .int .i64 x24.1.Since, .int .i64 x24.1.Last]], 0⟩])] rfl rfl (all1 (VRd.ntl (rd_loadN (ds := [.bool x22.1.Over, .int .i64 x22.1.Since, .int .i64 x22.1.Last]) rfl (getO_N rfl rfl) rfl ta_26 ts_26 rfl rfl rfl)) all0) ?_
              refine dops_rdW [(low, [⟨24, 3, [.agg [.int .i64 x3.2.Cut, .int .i64 x3.2.Clear, .int .i64 x3.2.Delay]], 0⟩, ⟨26, 3, [.agg [.bool s11.2.2.1.Over, .int .i64 s11.2.2.1.Since, .int .i64 s11.2.2.1.Last]], 0⟩, ⟨26, 3, [.agg [.bool s11.2.2.2.Over, .int .i64 s11.2.2.2.Since, .int .i64 s11.2.2.2.Last]], 0⟩, ⟨26, 3, [.agg [.bool x22.1.Over, .int .i64 x22.1.Since, .int .i64 x22.1.Last]], 0⟩, ⟨26, 3, [.agg [.bool x24.1.Over, .int .i64 x24.1.Since, .int .i64 x24.1.Last]], 0⟩]), (low, [⟨24, 3, [.agg [.int .i64 x3.2.Cut, .int .i64 x3.2.Clear, .int .i64 x3.2.Delay]], 0⟩, ⟨26, 3, [.agg [.bool x22.1.Over, .int .i64 x22.1.Since, .int .i64 x22.1.Last]], 0⟩, ⟨26, 3, [.agg [.bool s11.2.2.2.Over, .int .i64 s11.2.2.2.Since, .int .i64 s11.2.2.2.Last]], 0⟩, ⟨26, 3, [.agg [.bool x22.1.Over, .int .i64 x22.1.Since, .int .i64 x22.1.Last]], 0⟩, ⟨26, 3, [.agg [.bool x24.1.Over, .int .i64 x24.1.Since, .int .i64 x24.1.Last]], 0⟩])] rfl rfl (all1 (VRd.ntl (rd_loadN (ds := [.bool x24.1.Over, .int .i64 x24.1.Since, .int .i64 x24.1.Last]) rfl (getO_N rfl rfl) rfl ta_26 ts_26 rfl rfl rfl)) (all1 (VRd.ntl (rd_loadN (ds := [.bool x24.1.Over, .int .i64 x24.1.Since, .int .i64 x24.1.Last]) rfl (getO_N rfl rfl) rfl ta_26 ts_26 rfl rfl rfl)) all0)) ?_
              refine dops_ef (M := (low, [⟨24, 3, [.agg [.int .i64 x3.2.Cut, .int .i64 x3.2.Clear, .int .i64 x3.2.Delay]], 0⟩, ⟨26, 3, [.agg [.bool s11.2.2.1.Over, .int .i64 s11.2.2.1.Since, .int .i64 s11.2.2.1.Last]], 0⟩, ⟨26, 3, [.agg [.bool s11.2.2.2.Over, .int .i64 s11.2.2.2.Since, .int .i64 s11.2.2.2.Last]], 0⟩, ⟨26, 3, [.agg [.bool x22.1.Over, .int .i64 x22.1.Since, .int .i64 x22.1.Last]], 0⟩, ⟨26, 3, [.agg [.bool x24.1.Over, .int .i64 x24.1.Since, .int .i64 x24.1.Last]], 0⟩])) (M' := (low, [⟨24, 3, [.agg [.int .i64 x3.2.Cut, .int .i64 x3.2.Clear, .int .i64 x3.2.Delay]], 0⟩, ⟨26, 3, [.agg [.bool x22.1.Over, .int .i64 x22.1.Since, .int .i64 x22.1.Last]], 0⟩, ⟨26, 3, [.agg [.bool s11.2.2.2.Over, .int .i64 s11.2.2.2.Since, .int .i64 s11.2.2.2.Last]], 0⟩, ⟨26, 3, [.agg [.bool x22.1.Over, .int .i64 x22.1.Since, .int .i64 x22.1.Last]], 0⟩, ⟨26, 3, [.agg [.bool x24.1.Over, .int .i64 x24.1.Since, .int .i64 x24.1.Last]], 0⟩])) rfl rfl rfl (vef_store (p := .agg [.bool x22.1.Over, .int .i64 x22.1.Since, .int .i64 x22.1.Last]) (e' := .agg [.bool x22.1.Over, .int .i64 x22.1.Since, .int .i64 x22.1.Last]) rfl (getO_N rfl rfl) rfl rfl ts_26 rfl (nt_ne rfl) rfl (Nat.le_of_ble_eq_true rfl) rfl (setO_N rfl rfl)) ?_
              refine dops_ef (M := (low, [⟨24, 3, [.agg [.int .i64 x3.2.Cut, .int .i64 x3.2.Clear, .int .i64 x3.2.Delay]], 0⟩, ⟨26, 3, [.agg [.bool x22.1.Over, .int .i64 x22.1.Since, .int .i64 x22.1.Last]], 0⟩, ⟨26, 3, [.agg [.bool s11.2.2.2.Over, .int .i64 s11.2.2.2.Since, .int .i64 s11.2.2.2.Last]], 0⟩, ⟨26, 3, [.agg [.bool x22.1.Over, .int .i64 x22.1.Since, .int .i64 x22.1.Last]], 0⟩, ⟨26, 3, [.agg [.bool x24.1.Over, .int .i64 x24.1.Since, .int .i64 x24.1.Last]], 0⟩])) (M' := (low, [⟨24, 3, [.agg [.int .i64 x3.2.Cut, .int .i64 x3.2.Clear, .int .i64 x3.2.Delay]], 0⟩, ⟨26, 3, [.agg [.bool x22.1.Over, .int .i64 x22.1.Since, .int .i64 x22.1.Last]], 0⟩, ⟨26, 3, [.agg [.bool x24.1.Over, .int .i64 x24.1.Since, .int .i64 x24.1.Last]], 0⟩, ⟨26, 3, [.agg [.bool x22.1.Over, .int .i64 x22.1.Since, .int .i64 x22.1.Last]], 0⟩, ⟨26, 3, [.agg [.bool x24.1.Over, .int .i64 x24.1.Since, .int .i64 x24.1.Last]], 0⟩])) rfl rfl rfl (vef_store (p := .agg [.bool x24.1.Over, .int .i64 x24.1.Since, .int .i64 x24.1.Last]) (e' := .agg [.bool x24.1.Over, .int .i64 x24.1.Since, .int .i64 x24.1.Last]) rfl (getO_N rfl rfl) rfl rfl ts_26 rfl (nt_ne rfl) rfl (Nat.le_of_ble_eq_true rfl) rfl (setO_N rfl rfl)) ?_
              refine dops_nil ?_
              refine vwp_region ?_
              refine vops_rd (rd_add rfl rfl rfl) rfl ?_
              refine vops_rd (rd_mvI rfl) rfl ?_
              refine vops_nil ?_
              obtain rfl := Option.some.inj hF
              refine onlyE ?_
              exact weak_pick rfl [(0, 0), (1, 0), (2, 0)] (by decide) ⟨rn_low rfl (.vs _ _), rn_ptr 0 0 rfl rfl, rn_ptr 1 1 rfl rfl, rn_ptr 2 2 rfl rfl, rn_low rfl (.int _ _), rn_low rfl (.vs _ _), rn_low rfl (.int _ _), rn_low rfl (.int _ _), trivial⟩ ⟨⟨_, rfl, rfl, .same _ _ _ _ (ltObj_es ⟨(lt_agg ⟨.int _ _, .int _ _, .int _ _, trivial⟩), trivial⟩)⟩, ⟨_, rfl, rfl, .same _ _ _ _ (ltObj_es ⟨(lt_agg ⟨.bool _, .int _ _, .int _ _, trivial⟩), trivial⟩)⟩, ⟨_, rfl, rfl, .same _ _ _ _ (ltObj_es ⟨(lt_agg ⟨.bool _, .int _ _, .int _ _, trivial⟩), trivial⟩)⟩, trivial⟩
      · have hF := bifF c15 hF
        refine vwp_exit ?_
        obtain rfl := Option.some.inj hF
        refine onlyE ?_
        exact weak_pick rfl [] (by decide) trivial trivial
    · rcases o12 with j13 | j14
      · replace hF := elimL hF
        rintro _ _ _ _ ⟨rfl, hw⟩
        refine ⟨_, _, _, hw, ?_⟩
        obtain rfl := Option.some.inj hF
        refine fnR ?_
        exact weak_sub ⟨rfl, trivial⟩
      · replace hF := elimR hF
        rintro _ _ _ _ ⟨rfl, hw⟩
        refine ⟨_, _, _, hw, ?_⟩
        refine vwp_seq ?_
        refine vwp_region ?_
        obtain ⟨x31, h32, hF⟩ := bnd hF
        refine vops_efE (vef_callP rfl Try.call20 (F_law17_awake_ok h32 _)) rfl ?_
        refine vops_rd (rd_asB rfl) rfl ?_
        refine vops_nil ?_
        refine vwp_ret ?_
        obtain rfl := Option.some.inj hF
        refine fnR ?_
        exact weak_sub ⟨rfl, trivial⟩
  · rintro _ _ _ _ ⟨he, hw⟩
    refine ⟨_, _, _, hw, ?_⟩
    exact bodyQ_pure he [.bool r] ⟨rfl, trivial⟩ (.bool _) ⟨rfl, rfl⟩

end Go.Proofs.Ytlbiodgefifhoaa
