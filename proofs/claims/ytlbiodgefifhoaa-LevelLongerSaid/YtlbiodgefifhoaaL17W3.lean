/- Printed by wip/lift/lift.py: the walks that show that the program computes them. -/
import Derived.Test.YtlbiodgefifhoaaL17W2
namespace Go.Proofs.Ytlbiodgefifhoaa
open Go Go.Aml Go.L
attribute [local irreducible] VRd VEf VOp VOps VWp DOps
set_option linter.unusedVariables false
set_option maxHeartbeats 4000000

theorem F_law17_LevelLonger_ok {p0 : List Int} {p1 : Int} {p2 : Int} {r : Bool} (hF : F_law17_LevelLonger p0 p1 p2 = some r) (low : List AObj) :
    VCalls Try.prog 8 [.vs 1 (List.map (PV.int .u8) p0), .int .u8 p1, .int .u8 p2] low fun x low' => x = .bool r ∧ low' = low := by
  refine vcalls_of_body (nt := 100) (rs := [.tmp 6]) Try.func8 rfl rfl (Nat.le_of_ble_eq_true rfl) rfl ?_
  refine vwp_monoW (Q' := FnE (fun E' lw lc => Weak E' lw lc [(6, .bool r)] low [])) ?_ ?_
  · unfold F_law17_LevelLonger at hF
    refine vwp_seq ?_
    refine vwp_region ?_
    refine vops_rd (rd_asB rfl) rfl ?_
    refine vops_nil ?_
    refine vwp_seq ?_
    refine vwp_region ?_
    obtain ⟨x1, h2, hF⟩ := bnd hF
    refine vops_rd (rd_mvV rfl) rfl ?_
    refine vops_efE (vef_callN (r := .ptr (low.length + 0) 0 0 0) (os := [⟨53, 2, [.agg [.vs 1 (List.map (PV.int .u8) x1.l), .int .i64 x1.at_]], 0⟩]) rfl Try.call9 (F_draw_New_ok h2 _ (len_app rfl rfl))) rfl ?_
    refine vops_rd (rd_asP rfl) rfl ?_
    refine vops_nil ?_
    refine vwp_seq ?_
    refine vwp_region ?_
    obtain ⟨x3, h4, hF⟩ := bnd hF
    refine vops_rd (rd_mvP rfl) rfl ?_
    refine vops_efE (vef_callMN (k := 0) (loc1 := [⟨53, 2, [.agg [.vs 1 (List.map (PV.int .u8) x3.1.l), .int .i64 x3.1.at_]], 0⟩]) rfl rfl Try.call10 (F_draw_Codes_Level_ok h4 (get_N rfl rfl)) rfl) rfl ?_
    refine vops_efE (vef_allocN rfl rfl tz_24 rfl rfl (Nat.succ_pos _) rfl) rfl ?_
    refine vops_efE (vef_store (p := .agg [.int .i64 x3.2.Cut, .int .i64 x3.2.Clear, .int .i64 x3.2.Delay]) (e' := .agg [.int .i64 x3.2.Cut, .int .i64 x3.2.Clear, .int .i64 x3.2.Delay]) rfl (getO_N rfl rfl) rfl rfl ts_24 rfl (nt_ne rfl) rfl (Nat.le_of_ble_eq_true rfl) rfl (setO_N rfl rfl)) rfl ?_
    refine vops_nil ?_
    refine vwp_seq ?_
    refine vwp_region ?_
    refine vops_rd (rd_loadN (ds := [.int .i64 x3.2.Cut, .int .i64 x3.2.Clear, .int .i64 x3.2.Delay]) rfl (getO_N rfl rfl) rfl ta_24 ts_24 rfl rfl rfl) rfl ?_
    refine vops_efE (vef_allocN rfl rfl tz_24 rfl rfl (Nat.succ_pos _) rfl) rfl ?_
    refine vops_efE (vef_store (p := .agg [.int .i64 x3.2.Cut, .int .i64 x3.2.Clear, .int .i64 x3.2.Delay]) (e' := .agg [.int .i64 x3.2.Cut, .int .i64 x3.2.Clear, .int .i64 x3.2.Delay]) rfl (getO_N rfl rfl) rfl rfl ts_24 rfl (nt_ne rfl) rfl (Nat.le_of_ble_eq_true rfl) rfl (setO_N rfl rfl)) rfl ?_
    refine vops_nil ?_
    refine vwp_seq ?_
    refine vwp_region ?_
    refine vops_rd (rd_fieldAddr rfl tf_24_2 ts_3 (by decide)) rfl ?_
    refine vops_rd (rd_load1 rfl (getO_N rfl rfl) rfl ta_3 rfl) rfl ?_
    refine vops_rd (rd_mvI rfl) rfl ?_
    refine vops_rd (rd_conv rfl us_5 ti_3 rfl) rfl ?_
    refine vops_rd (rd_rem rfl rfl (by decide) rfl) rfl ?_
    refine vops_rd (rd_add rfl rfl rfl) rfl ?_
    refine vops_rd (rd_fieldAddr rfl tf_24_2 ts_3 (by decide)) rfl ?_
    refine vops_efE (vef_store (p := .int .i64 (IntKind.i64.wrap (x3.2.Delay + (Int.tmod (IntKind.i64.wrap p1) 9)))) (e' := .agg [.int .i64 x3.2.Cut, .int .i64 x3.2.Clear, .int .i64 (IntKind.i64.wrap (x3.2.Delay + (Int.tmod (IntKind.i64.wrap p1) 9)))]) rfl (getO_N rfl rfl) rfl rfl ts_3 rfl (nt_ne rfl) rfl (Nat.le_of_ble_eq_true rfl) rfl (setO_N rfl rfl)) rfl ?_
    refine vops_nil ?_
    refine vwp_seq ?_
    refine vwp_region ?_
    refine vops_rd (rd_fieldAddr rfl tf_24_1 ts_3 (by decide)) rfl ?_
    refine vops_rd (rd_load1 rfl (getO_N rfl rfl) rfl ta_3 rfl) rfl ?_
    refine vops_rd (rd_mvI rfl) rfl ?_
    refine vops_rd (rd_conv rfl us_5 ti_3 rfl) rfl ?_
    refine vops_rd (rd_rem rfl rfl (by decide) rfl) rfl ?_
    refine vops_rd (rd_sub rfl rfl rfl) rfl ?_
    refine vops_rd (rd_max rfl rfl) rfl ?_
    refine vops_rd (rd_fieldAddr rfl tf_24_1 ts_3 (by decide)) rfl ?_
    refine vops_efE (vef_store (p := .int .i64 (max 0 (IntKind.i64.wrap (x3.2.Clear - (Int.tmod (IntKind.i64.wrap p2) 20))))) (e' := .agg [.int .i64 x3.2.Cut, .int .i64 (max 0 (IntKind.i64.wrap (x3.2.Clear - (Int.tmod (IntKind.i64.wrap p2) 20)))), .int .i64 (IntKind.i64.wrap (x3.2.Delay + (Int.tmod (IntKind.i64.wrap p1) 9)))]) rfl (getO_N rfl rfl) rfl rfl ts_3 rfl (nt_ne rfl) rfl (Nat.le_of_ble_eq_true rfl) rfl (setO_N rfl rfl)) rfl ?_
    refine vops_nil ?_
    refine vwp_seq ?_
    refine vwp_seq ?_
    refine vwp_region ?_
    refine vops_rd (rd_mvI rfl) rfl ?_
    refine vops_rd (rd_gtr rfl rfl) rfl ?_
    refine vops_nil ?_
    obtain ⟨o5, ho5, hF⟩ := bnd hF
    refine vwp_monoW (Q' := (fun o5 => OnlyE .normal (fun E' lw lc => Weak E' lw lc [(7, .ptr (low.length + 0) 0 0 0), (8, .ptr (low.length + 1) 0 0 0), (9, .ptr (low.length + 2) 0 0 0)] low [⟨53, 2, [.agg [.vs 1 (List.map (PV.int .u8) x3.1.l), .int .i64 x3.1.at_]], 0⟩, ⟨24, 3, [.agg [.int .i64 x3.2.Cut, .int .i64 x3.2.Clear, .int .i64 x3.2.Delay]], 0⟩, ⟨24, 3, [.agg [.int .i64 o5, .int .i64 (max 0 (IntKind.i64.wrap (x3.2.Clear - (Int.tmod (IntKind.i64.wrap p2) 20)))), .int .i64 (IntKind.i64.wrap (x3.2.Delay + (Int.tmod (IntKind.i64.wrap p1) 9)))]], 0⟩])) o5) ?_ ?_
    · replace hF := ho5
      refine vwp_cond rfl (fun c6 => ?_) (fun c6 => ?_)
      · have hF := bifT c6 hF
        refine vwp_region ?_
        refine vops_rd (rd_fieldAddr rfl tf_24_1 ts_3 (by decide)) rfl ?_
        refine vops_rd (rd_load1 rfl (getO_N rfl rfl) rfl ta_3 rfl) rfl ?_
        refine vops_rd (rd_add rfl rfl rfl) rfl ?_
        refine vops_rd (rd_fieldAddr rfl tf_24_0 ts_3 (by decide)) rfl ?_
        refine vops_efE (vef_store (p := .int .i64 (IntKind.i64.wrap ((max 0 (IntKind.i64.wrap (x3.2.Clear - (Int.tmod (IntKind.i64.wrap p2) 20)))) + 1))) (e' := .agg [.int .i64 (IntKind.i64.wrap ((max 0 (IntKind.i64.wrap (x3.2.Clear - (Int.tmod (IntKind.i64.wrap p2) 20)))) + 1)), .int .i64 (max 0 (IntKind.i64.wrap (x3.2.Clear - (Int.tmod (IntKind.i64.wrap p2) 20)))), .int .i64 (IntKind.i64.wrap (x3.2.Delay + (Int.tmod (IntKind.i64.wrap p1) 9)))]) rfl (getO_N rfl rfl) rfl rfl ts_3 rfl (nt_ne rfl) rfl (Nat.le_of_ble_eq_true rfl) rfl (setO_N rfl rfl)) rfl ?_
        refine vops_nil ?_
        obtain rfl := Option.some.inj hF
        refine onlyE ?_
        exact weak_sub ⟨rfl, rfl, rfl, trivial⟩
      · have hF := bifF c6 hF
        refine vwp_skip ?_
        obtain rfl := Option.some.inj hF
        refine onlyE ?_
        exact weak_sub ⟨rfl, rfl, rfl, trivial⟩
    · rintro _ _ _ _ ⟨rfl, hw⟩
      refine ⟨_, _, _, hw, ?_⟩
      refine vwp_seq ?_
      refine vwp_region ?_
      obtain ⟨x7, h8, hF⟩ := bnd hF
      obtain ⟨x9, h10, hF⟩ := bnd hF
      refine vops_efE (vef_callP rfl Try.call14 (F_level_Begin_ok h8 _)) rfl ?_
      refine vops_efE (vef_callP rfl Try.call14 (F_level_Begin_ok h10 _)) rfl ?_
      refine vops_efE (vef_allocN rfl rfl tz_26 rfl rfl (Nat.succ_pos _) rfl) rfl ?_
      refine vops_efE (vef_allocN rfl rfl tz_26 rfl rfl (Nat.succ_pos _) rfl) rfl ?_
      refine vops_efE (vef_store (p := .agg [.bool x7.Over, .int .i64 x7.Since, .int .i64 x7.Last]) (e' := .agg [.bool x7.Over, .int .i64 x7.Since, .int .i64 x7.Last]) rfl (getO_N rfl rfl) rfl rfl ts_26 rfl (nt_ne rfl) rfl (Nat.le_of_ble_eq_true rfl) rfl (setO_N rfl rfl)) rfl ?_
      refine vops_efE (vef_store (p := .agg [.bool x9.Over, .int .i64 x9.Since, .int .i64 x9.Last]) (e' := .agg [.bool x9.Over, .int .i64 x9.Since, .int .i64 x9.Last]) rfl (getO_N rfl rfl) rfl rfl ts_26 rfl (nt_ne rfl) rfl (Nat.le_of_ble_eq_true rfl) rfl (setO_N rfl rfl)) rfl ?_
      refine vops_nil ?_
      refine vwp_seq ?_
      refine vwp_region ?_
      refine vops_rd (rd_asI rfl) rfl ?_
      refine vops_nil ?_
      refine vwp_seq ?_
      refine vwp_seq ?_
      refine vwp_region ?_
      obtain ⟨x11, h12, hF⟩ := bnd hF
      refine vops_rd (rd_mvP rfl) rfl ?_
      refine vops_rd (rd_loadN (ds := [.int .i64 x3.2.Cut, .int .i64 x3.2.Clear, .int .i64 x3.2.Delay]) rfl (getO_N rfl rfl) rfl ta_24 ts_24 rfl rfl rfl) rfl ?_
      refine vops_efE (vef_callMN (k := 0) (loc1 := [⟨53, 2, [.agg [.vs 1 (List.map (PV.int .u8) x11.1.l), .int .i64 x11.1.at_]], 0⟩, ⟨24, 3, [.agg [.int .i64 x3.2.Cut, .int .i64 x3.2.Clear, .int .i64 x3.2.Delay]], 0⟩, ⟨24, 3, [.agg [.int .i64 o5, .int .i64 (max 0 (IntKind.i64.wrap (x3.2.Clear - (Int.tmod (IntKind.i64.wrap p2) 20)))), .int .i64 (IntKind.i64.wrap (x3.2.Delay + (Int.tmod (IntKind.i64.wrap p1) 9)))]], 0⟩, ⟨26, 3, [.agg [.bool x7.Over, .int .i64 x7.Since, .int .i64 x7.Last]], 0⟩, ⟨26, 3, [.agg [.bool x9.Over, .int .i64 x9.Since, .int .i64 x9.Last]], 0⟩]) rfl rfl Try.call23 (F_law17_story_ok h12 (get_N rfl rfl)) rfl) rfl ?_
      refine vops_rd (rd_to (rd_lenV rfl rfl te_45) (congrArg (fun n : Nat => PV.int .i64 (n : Int)) (List.length_map _))) rfl ?_
      refine vops_rd (rd_mvI rfl) rfl ?_
      refine vops_nil ?_
      refine vwp_block ?_
      obtain ⟨o14, ho14, hF⟩ := bnd hF
      refine vwp_monoW (vwp_loopC (F_law17_LevelLonger_L1 p1 p2 x3 o5 x11) (fun s13 E' lw lc => Weak E' lw lc [(8, .ptr (low.length + 0) 0 0 0), (9, .ptr (low.length + 1) 0 0 0), (10, .ptr (low.length + 2) 0 0 0), (11, .ptr (low.length + 3) 0 0 0), (12, .int .i64 s13.1), (50, .vs 3 (List.map T_law17_seen.enc x11.2)), (51, .int .i64 ((x11.2).length : Int)), (52, .int .i64 s13.2.1)] low [⟨24, 3, [.agg [.int .i64 x3.2.Cut, .int .i64 x3.2.Clear, .int .i64 x3.2.Delay]], 0⟩, ⟨24, 3, [.agg [.int .i64 o5, .int .i64 (max 0 (IntKind.i64.wrap (x3.2.Clear - (Int.tmod (IntKind.i64.wrap p2) 20)))), .int .i64 (IntKind.i64.wrap (x3.2.Delay + (Int.tmod (IntKind.i64.wrap p1) 9)))]], 0⟩, ⟨26, 3, [.agg [.bool s13.2.2.1.Over, .int .i64 s13.2.2.1.Since, .int .i64 s13.2.2.1.Last]], 0⟩, ⟨26, 3, [.agg [.bool s13.2.2.2.Over, .int .i64 s13.2.2.2.Since, .int .i64 s13.2.2.2.Last]], 0⟩]) (Sum.elim (fun j15 => OnlyE .ret (fun E' lw lc => Weak E' lw lc [(6, .bool false)] low [])) (fun j16 => OnlyE (.exit 0) (fun E' lw lc => Weak E' lw lc [] low []))) ho14 ?_ (by rintro (_|_) _ _ _ ⟨h, _⟩ <;> cases h) ?_) ?_
      · exact weak_pick rfl [(1, 0), (2, 0), (3, 0), (4, 0)] (by decide) ⟨rn_ptr 0 1 rfl rfl, rn_ptr 1 2 rfl rfl, rn_ptr 2 3 rfl rfl, rn_ptr 3 4 rfl rfl, rn_low rfl (.int _ _), rn_low rfl (.vs _ _), rn_low rfl (.int _ _), rn_low rfl (.int _ _), trivial⟩ ⟨⟨_, rfl, rfl, .same _ _ _ _ (ltObj_es ⟨(lt_agg ⟨.int _ _, .int _ _, .int _ _, trivial⟩), trivial⟩)⟩, ⟨_, rfl, rfl, .same _ _ _ _ (ltObj_es ⟨(lt_agg ⟨.int _ _, .int _ _, .int _ _, trivial⟩), trivial⟩)⟩, ⟨_, rfl, rfl, .same _ _ _ _ (ltObj_es ⟨(lt_agg ⟨.bool _, .int _ _, .int _ _, trivial⟩), trivial⟩)⟩, ⟨_, rfl, rfl, .same _ _ _ _ (ltObj_es ⟨(lt_agg ⟨.bool _, .int _ _, .int _ _, trivial⟩), trivial⟩)⟩, trivial⟩
      · rintro s13 os13 _ _ _ hF hw
        unfold F_law17_LevelLonger_L1 at hF
        refine vwp_weak hw ?_
        refine vwp_seq ?_
        refine vwp_region ?_
        refine vops_rd (rd_lss rfl rfl) rfl ?_
        refine vops_nil ?_
        refine vwp_seq ?_
        refine vwp_cond rfl (fun c17 => ?_) (fun c17 => ?_)
        · have hF := bifT c17 hF
          refine vwp_skip ?_
          refine vwp_seq ?_
          refine vwp_block ?_
          refine vwp_seq ?_
          refine vwp_region ?_
          obtain ⟨x18, h19, hF⟩ := bnd hF
          refine vops_rd (rd_to (rd_ixV rfl rfl h19 te_45 ts_48) (v' := .vptr [.int .i64 x18.wait, .int .i64 x18.low, .int .i64 x18.high] 0) rfl) rfl ?_
          refine vops_rd (rd_loadVN (ds := [.int .i64 x18.wait, .int .i64 x18.low, .int .i64 x18.high]) rfl ta_48 ts_48 rfl rfl) rfl ?_
          refine vops_efE (vef_allocN rfl rfl tz_48 rfl rfl (Nat.succ_pos _) rfl) rfl ?_
          refine vops_efE (vef_store (p := .agg [.int .i64 x18.wait, .int .i64 x18.low, .int .i64 x18.high]) (e' := .agg [.int .i64 x18.wait, .int .i64 x18.low, .int .i64 x18.high]) rfl (getO_N rfl rfl) rfl rfl ts_48 rfl (nt_ne rfl) rfl (Nat.le_of_ble_eq_true rfl) rfl (setO_N rfl rfl)) rfl ?_
          refine vops_nil ?_
          refine vwp_seq ?_
          refine vwp_region ?_
          refine vops_rd (rd_mvI rfl) rfl ?_
          refine vops_rd (rd_fieldAddr rfl tf_48_0 ts_3 (by decide)) rfl ?_
          refine vops_rd (rd_load1 rfl (getO_N rfl rfl) rfl ta_3 rfl) rfl ?_
          refine vops_rd (rd_add rfl rfl rfl) rfl ?_
          refine vops_rd (rd_asI rfl) rfl ?_
          refine vops_nil ?_
          refine vwp_seq ?_
          refine vwp_region ?_
          refine vops_rd (rd_fieldAddr rfl tf_48_1 ts_3 (by decide)) rfl ?_
          refine vops_rd (rd_load1 rfl (getO_N rfl rfl) rfl ta_3 rfl) rfl ?_
          refine vops_rd (rd_fieldAddr rfl tf_48_2 ts_3 (by decide)) rfl ?_
          refine vops_rd (rd_load1 rfl (getO_N rfl rfl) rfl ta_3 rfl) rfl ?_
          refine vops_rd (rd_build (vs := [(0, .int .i64 x18.low), (1, .int .i64 x18.high)]) (ds := [.int .i64 x18.low, .int .i64 x18.high]) tz_28 rfl rfl tp_28 ⟨rfl, rfl, rfl, rfl, trivial⟩ (nt_all2 rfl) rfl) rfl ?_
          refine vops_efE (vef_allocN rfl rfl tz_28 rfl rfl (Nat.succ_pos _) rfl) rfl ?_
          refine vops_efE (vef_store (p := .agg [.int .i64 x18.low, .int .i64 x18.high]) (e' := .agg [.int .i64 x18.low, .int .i64 x18.high]) rfl (getO_N rfl rfl) rfl rfl ts_28 rfl (nt_ne rfl) rfl (Nat.le_of_ble_eq_true rfl) rfl (setO_N rfl rfl)) rfl ?_
          refine vops_nil ?_
          refine vwp_seq ?_
          refine vwp_region ?_
          obtain ⟨x20, h21, hF⟩ := bnd hF
          refine vops_rd (rd_loadN (ds := [.int .i64 x3.2.Cut, .int .i64 x3.2.Clear, .int .i64 x3.2.Delay]) rfl (getO_N rfl rfl) rfl ta_24 ts_24 rfl rfl rfl) rfl ?_
          refine vops_rd (rd_loadN (ds := [.bool s13.2.2.1.Over, .int .i64 s13.2.2.1.Since, .int .i64 s13.2.2.1.Last]) rfl (getO_N rfl rfl) rfl ta_26 ts_26 rfl rfl rfl) rfl ?_
          refine vops_rd (rd_loadN (ds := [.int .i64 x18.low, .int .i64 x18.high]) rfl (getO_N rfl rfl) rfl ta_28 ts_28 rfl rfl rfl) rfl ?_
          refine vops_rd (rd_mvI rfl) rfl ?_
          refine vops_efE (vef_callP rfl Try.call15 (F_level_Step_ok h21 _)) rfl ?_
          refine vops_rd (rd_mvT rfl) rfl ?_
          refine vops_rd (rd_extract rfl rfl) rfl ?_
          refine vops_rd (rd_extract rfl rfl) rfl ?_
          refine vops_efE (vef_allocN rfl rfl tz_26 rfl rfl (Nat.succ_pos _) rfl) rfl ?_
          refine vops_efE (vef_store (p := .agg [.bool x20.1.Over, .int .i64 x20.1.Since, .int .i64 x20.1.Last]) (e' := .agg [.bool x20.1.Over, .int .i64 x20.1.Since, .int .i64 x20.1.Last]) rfl (getO_N rfl rfl) rfl rfl ts_26 rfl (nt_ne rfl) rfl (Nat.le_of_ble_eq_true rfl) rfl (setO_N rfl rfl)) rfl ?_
          refine vops_rd (rd_asI rfl) rfl ?_
          refine vops_nil ?_
          refine vwp_seq ?_
          refine vwp_region ?_
          obtain ⟨x22, h23, hF⟩ := bnd hF
          refine vops_rd (rd_loadN (ds := [.int .i64 o5, .int .i64 (max 0 (IntKind.i64.wrap (x3.2.Clear - (Int.tmod (IntKind.i64.wrap p2) 20)))), .int .i64 (IntKind.i64.wrap (x3.2.Delay + (Int.tmod (IntKind.i64.wrap p1) 9)))]) rfl (getO_N rfl rfl) rfl ta_24 ts_24 rfl rfl rfl) rfl ?_
          refine vops_rd (rd_loadN (ds := [.bool s13.2.2.2.Over, .int .i64 s13.2.2.2.Since, .int .i64 s13.2.2.2.Last]) rfl (getO_N rfl rfl) rfl ta_26 ts_26 rfl rfl rfl) rfl ?_
          refine vops_rd (rd_loadN (ds := [.int .i64 x18.low, .int .i64 x18.high]) rfl (getO_N rfl rfl) rfl ta_28 ts_28 rfl rfl rfl) rfl ?_
          refine vops_rd (rd_mvI rfl) rfl ?_
          refine vops_efE (vef_callP rfl Try.call15 (F_level_Step_ok h23 _)) rfl ?_
          refine vops_rd (rd_mvT rfl) rfl ?_
          refine vops_rd (rd_extract rfl rfl) rfl ?_
          refine vops_rd (rd_extract rfl rfl) rfl ?_
          refine vops_efE (vef_allocN rfl rfl tz_26 rfl rfl (Nat.succ_pos _) rfl) rfl ?_
          refine vops_efE (vef_store (p := .agg [.bool x22.1.Over, .int .i64 x22.1.Since, .int .i64 x22.1.Last]) (e' := .agg [.bool x22.1.Over, .int .i64 x22.1.Since, .int .i64 x22.1.Last]) rfl (getO_N rfl rfl) rfl rfl ts_26 rfl (nt_ne rfl) rfl (Nat.le_of_ble_eq_true rfl) rfl (setO_N rfl rfl)) rfl ?_
          refine vops_rd (rd_asI rfl) rfl ?_
          refine vops_nil ?_
          refine vwp_seq ?_
          refine vwp_seq ?_
          obtain ⟨o24, ho24, hF⟩ := bnd hF
          refine vwp_monoW (Q' := (fun o24 => OnlyE .normal (fun E' lw lc => Weak E' lw lc [(8, .ptr (low.length + 0) 0 0 0), (9, .ptr (low.length + 1) 0 0 0), (10, .ptr (low.length + 2) 0 0 0), (11, .ptr (low.length + 3) 0 0 0), (12, .int .i64 (IntKind.i64.wrap (s13.1 + x18.wait))), (16, .ptr (low.length + 4) 0 0 0), (18, .ptr (low.length + 5) 0 0 0), (50, .vs 3 (List.map T_law17_seen.enc x11.2)), (51, .int .i64 ((x11.2).length : Int)), (52, .int .i64 s13.2.1), (95, .bool o24)] low [⟨24, 3, [.agg [.int .i64 x3.2.Cut, .int .i64 x3.2.Clear, .int .i64 x3.2.Delay]], 0⟩, ⟨24, 3, [.agg [.int .i64 o5, .int .i64 (max 0 (IntKind.i64.wrap (x3.2.Clear - (Int.tmod (IntKind.i64.wrap p2) 20)))), .int .i64 (IntKind.i64.wrap (x3.2.Delay + (Int.tmod (IntKind.i64.wrap p1) 9)))]], 0⟩, ⟨26, 3, [.agg [.bool s13.2.2.1.Over, .int .i64 s13.2.2.1.Since, .int .i64 s13.2.2.1.Last]], 0⟩, ⟨26, 3, [.agg [.bool s13.2.2.2.Over, .int .i64 s13.2.2.2.Since, .int .i64 s13.2.2.2.Last]], 0⟩, ⟨26, 3, [.agg [.bool x20.1.Over, .int .i64 x20.1.Since, .int .i64 x20.1.Last]], 0⟩, ⟨26, 3, [.agg [.bool x22.1.Over, .int .i64 x22.1.Since, .int .i64 x22.1.Last]], 0⟩])) o24) ?_ ?_
          · replace hF := ho24
            refine vwp_region ?_
            rcases Bool.eq_false_or_eq_true (decide (x20.2 ≠ 0)) with c25 | c25
            · have hF := bifT c25 hF
              refine vops_rd (rd_mvI rfl) rfl ?_
              refine vops_rd (rd_neq rfl rfl) rfl ?_
              refine vops_rd (rd_mvB rfl) rfl ?_
              refine vops_skip rfl rfl (neT c25) rfl ?_
              refine vops_skip rfl rfl (neT c25) rfl ?_
              refine vops_rd (rd_pickT (congrArg PV.bool c25) rfl) rfl ?_
              refine vops_rd (rd_mvB rfl) rfl ?_
              refine vops_skip rfl rfl (by decide) rfl ?_
              refine vops_skip rfl rfl (by decide) rfl ?_
              refine vops_skip rfl rfl (by decide) rfl ?_
              refine vops_skipX rfl rfl rfl ?_
              refine vops_skipX rfl rfl rfl ?_
              refine vops_skipX rfl rfl rfl ?_
              refine vops_skip rfl rfl (by decide) rfl ?_
              refine vops_rd (rd_pickT rfl rfl) rfl ?_
              refine vops_nil ?_
              obtain rfl := Option.some.inj hF
              refine onlyE ?_
              exact weak_pick rfl [(0, 0), (1, 0), (2, 0), (3, 0), (6, 0), (7, 0)] (by decide) ⟨rn_ptr 0 0 rfl rfl, rn_ptr 1 1 rfl rfl, rn_ptr 2 2 rfl rfl, rn_ptr 3 3 rfl rfl, rn_low rfl (.int _ _), rn_ptr 4 6 rfl rfl, rn_ptr 5 7 rfl rfl, rn_low rfl (.vs _ _), rn_low rfl (.int _ _), rn_low rfl (.int _ _), rn_low rfl (.bool _), trivial⟩ ⟨⟨_, rfl, rfl, .same _ _ _ _ (ltObj_es ⟨(lt_agg ⟨.int _ _, .int _ _, .int _ _, trivial⟩), trivial⟩)⟩, ⟨_, rfl, rfl, .same _ _ _ _ (ltObj_es ⟨(lt_agg ⟨.int _ _, .int _ _, .int _ _, trivial⟩), trivial⟩)⟩, ⟨_, rfl, rfl, .same _ _ _ _ (ltObj_es ⟨(lt_agg ⟨.bool _, .int _ _, .int _ _, trivial⟩), trivial⟩)⟩, ⟨_, rfl, rfl, .same _ _ _ _ (ltObj_es ⟨(lt_agg ⟨.bool _, .int _ _, .int _ _, trivial⟩), trivial⟩)⟩, ⟨_, rfl, rfl, .same _ _ _ _ (ltObj_es ⟨(lt_agg ⟨.bool _, .int _ _, .int _ _, trivial⟩), trivial⟩)⟩, ⟨_, rfl, rfl, .same _ _ _ _ (ltObj_es ⟨(lt_agg ⟨.bool _, .int _ _, .int _ _, trivial⟩), trivial⟩)⟩, trivial⟩
            · have hF := bifF c25 hF
              rcases Bool.eq_false_or_eq_true (decide (x22.2 ≠ 0)) with c26 | c26
              · have hF := bifT c26 hF
                refine vops_rd (rd_mvI rfl) rfl ?_
                refine vops_rd (rd_neq rfl rfl) rfl ?_
                refine vops_rd (rd_mvB rfl) rfl ?_
                refine vops_take rfl (congrArg PV.bool c25) ?_
                refine vops_rd (rd_mvI rfl) rfl ?_
                refine vops_take rfl (congrArg PV.bool c25) ?_
                refine vops_rd (rd_neq rfl rfl) rfl ?_
                refine vops_rd (rd_pickF (congrArg PV.bool c25) rfl) rfl ?_
                refine vops_rd (rd_mvB rfl) rfl ?_
                refine vops_skip rfl rfl (neT c26) rfl ?_
                refine vops_skip rfl rfl (neT c26) rfl ?_
                refine vops_skip rfl rfl (neT c26) rfl ?_
                refine vops_skipX rfl rfl rfl ?_
                refine vops_skipX rfl rfl rfl ?_
                refine vops_skipX rfl rfl rfl ?_
                refine vops_skip rfl rfl (neT c26) rfl ?_
                refine vops_rd (rd_pickT (congrArg PV.bool c26) rfl) rfl ?_
                refine vops_nil ?_
                obtain rfl := Option.some.inj hF
                refine onlyE ?_
                exact weak_pick rfl [(0, 0), (1, 0), (2, 0), (3, 0), (6, 0), (7, 0)] (by decide) ⟨rn_ptr 0 0 rfl rfl, rn_ptr 1 1 rfl rfl, rn_ptr 2 2 rfl rfl, rn_ptr 3 3 rfl rfl, rn_low rfl (.int _ _), rn_ptr 4 6 rfl rfl, rn_ptr 5 7 rfl rfl, rn_low rfl (.vs _ _), rn_low rfl (.int _ _), rn_low rfl (.int _ _), rn_low rfl (.bool _), trivial⟩ ⟨⟨_, rfl, rfl, .same _ _ _ _ (ltObj_es ⟨(lt_agg ⟨.int _ _, .int _ _, .int _ _, trivial⟩), trivial⟩)⟩, ⟨_, rfl, rfl, .same _ _ _ _ (ltObj_es ⟨(lt_agg ⟨.int _ _, .int _ _, .int _ _, trivial⟩), trivial⟩)⟩, ⟨_, rfl, rfl, .same _ _ _ _ (ltObj_es ⟨(lt_agg ⟨.bool _, .int _ _, .int _ _, trivial⟩), trivial⟩)⟩, ⟨_, rfl, rfl, .same _ _ _ _ (ltObj_es ⟨(lt_agg ⟨.bool _, .int _ _, .int _ _, trivial⟩), trivial⟩)⟩, ⟨_, rfl, rfl, .same _ _ _ _ (ltObj_es ⟨(lt_agg ⟨.bool _, .int _ _, .int _ _, trivial⟩), trivial⟩)⟩, ⟨_, rfl, rfl, .same _ _ _ _ (ltObj_es ⟨(lt_agg ⟨.bool _, .int _ _, .int _ _, trivial⟩), trivial⟩)⟩, trivial⟩
              · have hF := bifF c26 hF
                rcases Bool.eq_false_or_eq_true x20.1.Over with c27 | c27
                · have hF := bifT c27 hF
                  refine vops_rd (rd_mvI rfl) rfl ?_
                  refine vops_rd (rd_neq rfl rfl) rfl ?_
                  refine vops_rd (rd_mvB rfl) rfl ?_
                  refine vops_take rfl (congrArg PV.bool c25) ?_
                  refine vops_rd (rd_mvI rfl) rfl ?_
                  refine vops_take rfl (congrArg PV.bool c25) ?_
                  refine vops_rd (rd_neq rfl rfl) rfl ?_
                  refine vops_rd (rd_pickF (congrArg PV.bool c25) rfl) rfl ?_
                  refine vops_rd (rd_mvB rfl) rfl ?_
                  refine vops_take rfl (congrArg PV.bool c26) ?_
                  refine vops_rd (rd_fieldAddr rfl tf_26_0 ts_4 (by decide)) rfl ?_
                  refine vops_take rfl (congrArg PV.bool c26) ?_
                  refine vops_rd (rd_load1 rfl (getO_N rfl rfl) rfl ta_4 rfl) rfl ?_
                  refine vops_take rfl (congrArg PV.bool c26) ?_
                  refine vops_rd (rd_mvB rfl) rfl ?_
                  refine vops_take rfl (congrArg PV.bool c27) ?_
                  refine vops_rd (rd_fieldAddr rfl tf_26_0 ts_4 (by decide)) rfl ?_
                  refine vops_take rfl (congrArg PV.bool c27) ?_
                  refine vops_rd (rd_load1 rfl (getO_N rfl rfl) rfl ta_4 rfl) rfl ?_
                  refine vops_take rfl (congrArg PV.bool c27) ?_
                  refine vops_rd (rd_not rfl) rfl ?_
                  refine vops_take rfl (congrArg PV.bool c26) ?_
                  refine vops_rd (rd_pickT (congrArg PV.bool c27) rfl) rfl ?_
                  refine vops_rd (rd_pickF (congrArg PV.bool c26) rfl) rfl ?_
                  refine vops_nil ?_
                  obtain rfl := Option.some.inj hF
                  refine onlyE ?_
                  exact weak_pick rfl [(0, 0), (1, 0), (2, 0), (3, 0), (6, 0), (7, 0)] (by decide) ⟨rn_ptr 0 0 rfl rfl, rn_ptr 1 1 rfl rfl, rn_ptr 2 2 rfl rfl, rn_ptr 3 3 rfl rfl, rn_low rfl (.int _ _), rn_ptr 4 6 rfl rfl, rn_ptr 5 7 rfl rfl, rn_low rfl (.vs _ _), rn_low rfl (.int _ _), rn_low rfl (.int _ _), rn_low rfl (.bool _), trivial⟩ ⟨⟨_, rfl, rfl, .same _ _ _ _ (ltObj_es ⟨(lt_agg ⟨.int _ _, .int _ _, .int _ _, trivial⟩), trivial⟩)⟩, ⟨_, rfl, rfl, .same _ _ _ _ (ltObj_es ⟨(lt_agg ⟨.int _ _, .int _ _, .int _ _, trivial⟩), trivial⟩)⟩, ⟨_, rfl, rfl, .same _ _ _ _ (ltObj_es ⟨(lt_agg ⟨.bool _, .int _ _, .int _ _, trivial⟩), trivial⟩)⟩, ⟨_, rfl, rfl, .same _ _ _ _ (ltObj_es ⟨(lt_agg ⟨.bool _, .int _ _, .int _ _, trivial⟩), trivial⟩)⟩, ⟨_, rfl, rfl, .same _ _ _ _ (ltObj_es ⟨(lt_agg ⟨.bool _, .int _ _, .int _ _, trivial⟩), trivial⟩)⟩, ⟨_, rfl, rfl, .same _ _ _ _ (ltObj_es ⟨(lt_agg ⟨.bool _, .int _ _, .int _ _, trivial⟩), trivial⟩)⟩, trivial⟩
                · have hF := bifF c27 hF
                  refine vops_rd (rd_mvI rfl) rfl ?_
                  refine vops_rd (rd_neq rfl rfl) rfl ?_
                  refine vops_rd (rd_mvB rfl) rfl ?_
                  refine vops_take rfl (congrArg PV.bool c25) ?_
                  refine vops_rd (rd_mvI rfl) rfl ?_
                  refine vops_take rfl (congrArg PV.bool c25) ?_
                  refine vops_rd (rd_neq rfl rfl) rfl ?_
                  refine vops_rd (rd_pickF (congrArg PV.bool c25) rfl) rfl ?_
                  refine vops_rd (rd_mvB rfl) rfl ?_
                  refine vops_take rfl (congrArg PV.bool c26) ?_
                  refine vops_rd (rd_fieldAddr rfl tf_26_0 ts_4 (by decide)) rfl ?_
                  refine vops_take rfl (congrArg PV.bool c26) ?_
                  refine vops_rd (rd_load1 rfl (getO_N rfl rfl) rfl ta_4 rfl) rfl ?_
                  refine vops_take rfl (congrArg PV.bool c26) ?_
                  refine vops_rd (rd_mvB rfl) rfl ?_
                  refine vops_skip rfl rfl (neF c27) rfl ?_
                  refine vops_skip rfl rfl (neF c27) rfl ?_
                  refine vops_skip rfl rfl (neF c27) rfl ?_
                  refine vops_take rfl (congrArg PV.bool c26) ?_
                  refine vops_rd (rd_pickF (congrArg PV.bool c27) rfl) rfl ?_
                  refine vops_rd (rd_pickF (congrArg PV.bool c26) rfl) rfl ?_
                  refine vops_nil ?_
                  obtain rfl := Option.some.inj hF
                  refine onlyE ?_
                  exact weak_pick rfl [(0, 0), (1, 0), (2, 0), (3, 0), (6, 0), (7, 0)] (by decide) ⟨rn_ptr 0 0 rfl rfl, rn_ptr 1 1 rfl rfl, rn_ptr 2 2 rfl rfl, rn_ptr 3 3 rfl rfl, rn_low rfl (.int _ _), rn_ptr 4 6 rfl rfl, rn_ptr 5 7 rfl rfl, rn_low rfl (.vs _ _), rn_low rfl (.int _ _), rn_low rfl (.int _ _), rn_low rfl (.bool _), trivial⟩ ⟨⟨_, rfl, rfl, .same _ _ _ _ (ltObj_es ⟨(lt_agg ⟨.int _ _, .int _ _, .int _ _, trivial⟩), trivial⟩)⟩, ⟨_, rfl, rfl, .same _ _ _ _ (ltObj_es ⟨(lt_agg ⟨.int _ _, .int _ _, .int _ _, trivial⟩), trivial⟩)⟩, ⟨_, rfl, rfl, .same _ _ _ _ (ltObj_es ⟨(lt_agg ⟨.bool _, .int _ _, .int _ _, trivial⟩), trivial⟩)⟩, ⟨_, rfl, rfl, .same _ _ _ _ (ltObj_es ⟨(lt_agg ⟨.bool _, .int _ _, .int _ _, trivial⟩), trivial⟩)⟩, ⟨_, rfl, rfl, .same _ _ _ _ (ltObj_es ⟨(lt_agg ⟨.bool _, .int _ _, .int _ _, trivial⟩), trivial⟩)⟩, ⟨_, rfl, rfl, .same _ _ _ _ (ltObj_es ⟨(lt_agg ⟨.bool _, .int _ _, .int _ _, trivial⟩), trivial⟩)⟩, trivial⟩
          · rintro _ _ _ _ ⟨rfl, hw⟩
            refine ⟨_, _, _, hw, ?_⟩
            refine vwp_cond rfl (fun c28 => ?_) (fun c28 => ?_)
            · have hF := bifT c28 hF
              refine vwp_seq ?_
              refine vwp_region ?_
              refine vops_rd (rd_asB rfl) rfl ?_
              refine vops_nil ?_
              refine vwp_ret ?_
              obtain rfl := Option.some.inj hF
              refine onlyE ?_
              exact weak_pick rfl [] (by decide) ⟨rn_low rfl (.bool _), trivial⟩ trivial
            · have hF := bifF c28 hF
              refine vwp_skip ?_
              refine vwp_drawn [[], [], [0], [0, 1, 2]] [false, false, true, true] [(low, [⟨24, 3, [.agg [.int .i64 x3.2.Cut, .int .i64 x3.2.Clear, .int .i64 x3.2.Delay]], 0⟩, ⟨24, 3, [.agg [.int .i64 o5, .int .i64 (max 0 (IntKind.i64.wrap (x3.2.Clear - (Int.tmod (IntKind.i64.wrap p2) 20)))), .int .i64 (IntKind.i64.wrap (x3.2.Delay + (Int.tmod (IntKind.i64.wrap p1) 9)))]], 0⟩, ⟨26, 3, [.agg [.bool s13.2.2.1.Over, .int .i64 s13.2.2.1.Since, .int .i64 s13.2.2.1.Last]], 0⟩, ⟨26, 3, [.agg [.bool s13.2.2.2.Over, .int .i64 s13.2.2.2.Since, .int .i64 s13.2.2.2.Last]], 0⟩, ⟨26, 3, [.agg [.bool x20.1.Over, .int .i64 x20.1.Since, .int .i64 x20.1.Last]], 0⟩, ⟨26, 3, [.agg [.bool x22.1.Over, .int .i64 x22.1.Since, .int .i64 x22.1.Last]], 0⟩]), (low, [⟨24, 3, [.agg [.int .i64 x3.2.Cut, .int .i64 x3.2.Clear, .int .i64 x3.2.Delay]], 0⟩, ⟨24, 3, [.agg [.int .i64 o5, .int .i64 (max 0 (IntKind.i64.wrap (x3.2.Clear - (Int.tmod (IntKind.i64.wrap p2) 20)))), .int .i64 (IntKind.i64.wrap (x3.2.Delay + (Int.tmod (IntKind.i64.wrap p1) 9)))]], 0⟩, ⟨26, 3, [.agg [.bool x20.1.Over, .int .i64 x20.1.Since, .int .i64 x20.1.Last]], 0⟩, ⟨26, 3, [.agg [.bool s13.2.2.2.Over, .int .i64 s13.2.2.2.Since, .int .i64 s13.2.2.2.Last]], 0⟩, ⟨26, 3, [.agg [.bool x20.1.Over, .int .i64 x20.1.Since, .int .i64 x20.1.Last]], 0⟩, ⟨26, 3, [.agg [.bool x22.1.Over, .int .i64 x22.1.Since, .int .i64 x22.1.Last]], 0⟩]), (low, [⟨24, 3, [.agg [.int .i64 x3.2.Cut, .int .i64 x3.2.Clear, .int .i64 x3.2.Delay]], 0⟩, ⟨24, 3, [.agg [.int .i64 o5, .int .i64 (max 0 (IntKind.i64.wrap (x3.2.Clear - (Int.tmod (IntKind.i64.wrap p2) 20)))), .int .i64 (IntKind.i64.wrap (x3.2.Delay + (Int.tmod (IntKind.i64.wrap p1) 9)))]], 0⟩, ⟨26, 3, [.agg [.bool x20.1.Over, .int .i64 x20.1.Since, .int .i64 x20.1.Last]], 0⟩, ⟨26, 3, [.agg [.bool x22.1.Over, .int .i64 x22.1.Since, .int .i64 x22.1.Last]], 0⟩, ⟨26, 3, [.agg [.bool x20.1.Over, .int .i64 x20.1.Since, .int .i64 x20.1.Last]], 0⟩, ⟨26, 3, [.agg [.bool x22.1.Over, .int .i64 x22.1.Since, .int .i64 x22.1.Last]], 0⟩])] mixed (by kernel_rfl) rfl (lenAll (all1 rfl (all1 rfl (all1 rfl all0)))) rfl (low, [⟨24, 3, [.agg [.int .i64 x3.2.Cut, .int .i64 x3.2.Clear, .int .i64 x3.2.Delay]], 0⟩, ⟨24, 3, [.agg [.int .i64 o5, .int .i64 (max 0 (IntKind.i64.wrap (x3.2.Clear - (Int.tmod (IntKind.i64.wrap p2) 20)))), .int .i64 (IntKind.i64.wrap (x3.2.Delay + (Int.tmod (IntKind.i64.wrap p1) 9)))]], 0⟩, ⟨26, 3, [.agg [.bool x20.1.Over, .int .i64 x20.1.Since, .int .i64 x20.1.Last]], 0⟩, ⟨26, 3, [.agg [.bool x22.1.Over, .int .i64 x22.1.Since, .int .i64 x22.1.Last]], 0⟩, ⟨26, 3, [.agg [.bool x20.1.Over, .int .i64 x20.1.Since, .int .i64 x20.1.Last]], 0⟩, ⟨26, 3, [.agg [.bool x22.1.Over, .int .i64 x22.1.Since, .int .i64 x22.1.Last]], 0⟩]) rfl rfl ?_
              refine dops_rdW [(low, [⟨24, 3, [.agg [.int .i64 x3.2.Cut, .int .i64 x3.2.Clear, .int .i64 x3.2.Delay]], 0⟩, ⟨24, 3, [.agg [.int .i64 o5, .int .i64 (max 0 (IntKind.i64.wrap (x3.2.Clear - (Int.tmod (IntKind.i64.wrap p2) 20)))), .int .i64 (IntKind.i64.wrap (x3.2.Delay + (Int.tmod (IntKind.i64.wrap p1) 9)))]], 0⟩, ⟨26, 3, [.agg [.bool s13.2.2.1.Over, .int .i64 s13.2.2.1.Since, .int .i64 s13.2.2.1.Last]], 0⟩, ⟨26, 3, [.agg [.bool s13.2.2.2.Over, .int .i64 s13.2.2.2.Since, .int .i64 s13.2.2.2.Last]], 0⟩, ⟨26, 3, [.agg [.bool x20.1.Over, .int .i64 x20.1.Since, .int .i64 x20.1.Last]], 0⟩, ⟨26, 3, [.agg [.bool x22.1.Over, .int .i64 x22.1.Since, .int .i64 x22.1.Last]], 0⟩])] rfl rfl (all1 (VRd.ntl (rd_loadN (ds := [.bool x20.1.Over, .int .i64 x20.1.Since, .int .i64 x20.1.Last]) rfl (getO_N rfl rfl) rfl ta_26 ts_26 rfl rfl rfl)) all0) ?_
              refine dops_rdW [(low, [⟨24, 3, [.agg [.int .i64 x3.2.Cut, .int .i64 x3.2.Clear, .int .i64 x3.2.Delay]], 0⟩, ⟨24, 3, [.agg [.int .i64 o5, .int .i64 (max 0 (IntKind.i64.wrap (x3.2.Clear - (Int.tmod (IntKind.i64.wrap p2) 20)))), .int .i64 (IntKind.i64.wrap (x3.2.Delay + (Int.tmod (IntKind.i64.wrap p1) 9)))]], 0⟩, ⟨26, 3, [.agg [.bool s13.2.2.1.Over, .int .i64 s13.2.2.1.Since, .int .i64 s13.2.2.1.Last]], 0⟩, ⟨26, 3, [.agg [.bool s13.2.2.2.Over, .int .i64 s13.2.2.2.Since, .int .i64 s13.2.2.2.Last]], 0⟩, ⟨26, 3, [.agg [.bool x20.1.Over, .int .i64 x20.1.Since, .int .i64 x20.1.Last]], 0⟩, ⟨26, 3, [.agg [.bool x22.1.Over, .int .i64 x22.1.Since, .int .i64 x22.1.Last]], 0⟩]), (low, [⟨24, 3, [.agg [.int .i64 x3.2.Cut, .int .i64 x3.2.Clear, .int .i64 x3.2.Delay]], 0⟩, ⟨24, 3, [.agg [.int .i64 o5, .int .i64 (max 0 (IntKind.i64.wrap (x3.2.Clear - (Int.tmod (IntKind.i64.wrap p2) 20)))), .int .i64 (IntKind.i64.wrap (x3.2.Delay + (Int.tmod (IntKind.i64.wrap p1) 9)))]], 0⟩, ⟨26, 3, [.agg [.bool x20.1.Over, .int .i64 x20.1.Since, .int .i64 x20.1.Last]], 0⟩, ⟨26, 3, [.agg [.bool s13.2.2.2.Over, .int .i64 s13.2.2.2.Since, .int .i64 s13.2.2.2.Last]], 0⟩, ⟨26, 3, [.agg [.bool x20.1.Over, .int .i64 x20.1.Since, .int .i64 x20.1.Last]], 0⟩, ⟨26, 3, [.agg [.bool x22.1.Over, .int .i64 x22.1.Since, .int .i64 x22.1.Last]], 0⟩])] rfl rfl (all1 (VRd.ntl (rd_loadN (ds := [.bool x22.1.Over, .int .i64 x22.1.Since, .int .i64 x22.1.Last]) rfl (getO_N rfl rfl) rfl ta_26 ts_26 rfl rfl rfl)) (all1 (VRd.ntl (rd_loadN (ds := [.bool x22.1.Over, .int .i64 x22.1.Since, .int .i64 x22.1.Last]) rfl (getO_N rfl rfl) rfl ta_26 ts_26 rfl rfl rfl)) all0)) ?_
              refine dops_ef (M := (low, [⟨24, 3, [.agg [.int .i64 x3.2.Cut, .int .i64 x3.2.Clear, .int .i64 x3.2.Delay]], 0⟩, ⟨24, 3, [.agg [.int .i64 o5, .int .i64 (max 0 (IntKind.i64.wrap (x3.2.Clear - (Int.tmod (IntKind.i64.wrap p2) 20)))), .int .i64 (IntKind.i64.wrap (x3.2.Delay + (Int.tmod (IntKind.i64.wrap p1) 9)))]], 0⟩, ⟨26, 3, [.agg [.bool s13.2.2.1.Over, .int .i64 s13.2.2.1.Since, .int .i64 s13.2.2.1.Last]], 0⟩, ⟨26, 3, [.agg [.bool s13.2.2.2.Over, .int .i64 s13.2.2.2.Since, .int .i64 s13.2.2.2.Last]], 0⟩, ⟨26, 3, [.agg [.bool x20.1.Over, .int .i64 x20.1.Since, .int .i64 x20.1.Last]], 0⟩, ⟨26, 3, [.agg [.bool x22.1.Over, .int .i64 x22.1.Since, .int .i64 x22.1.Last]], 0⟩])) (M' := (low, [⟨24, 3, [.agg [.int .i64 x3.2.Cut, .int .i64 x3.2.Clear, .int .i64 x3.2.Delay]], 0⟩, ⟨24, 3, [.agg [.int .i64 o5, .int .i64 (max 0 (IntKind.i64.wrap (x3.2.Clear - (Int.tmod (IntKind.i64.wrap p2) 20)))), .int .i64 (IntKind.i64.wrap (x3.2.Delay + (Int.tmod (IntKind.i64.wrap p1) 9)))]], 0⟩, ⟨26, 3, [.agg [.bool x20.1.Over, .int .i64 x20.1.Since, .int .i64 x20.1.Last]], 0⟩, ⟨26, 3, [.agg [.bool s13.2.2.2.Over, .int .i64 s13.2.2.2.Since, .int .i64 s13.2.2.2.Last]], 0⟩, ⟨26, 3, [.agg [.bool x20.1.Over, .int .i64 x20.1.Since, .int .i64 x20.1.Last]], 0⟩, ⟨26, 3, [.agg [.bool x22.1.Over, .int .i64 x22.1.Since, .int .i64 x22.1.Last]], 0⟩])) rfl rfl rfl (vef_store (p := .agg [.bool x20.1.Over, .int .i64 x20.1.Since, .int .i64 x20.1.Last]) (e' := .agg [.bool x20.1.Over, .int .i64 x20.1.Since, .int .i64 x20.1.Last]) rfl (getO_N rfl rfl) rfl rfl ts_26 rfl (nt_ne rfl) rfl (Nat.le_of_ble_eq_true rfl) rfl (setO_N rfl rfl)) ?_
              refine dops_ef (M := (low, [⟨24, 3, [.agg [.int .i64 x3.2.Cut, .int .i64 x3.2.Clear, .int .i64 x3.2.Delay]], 0⟩, ⟨24, 3, [.agg [.int .i64 o5, .int .i64 (max 0 (IntKind.i64.wrap (x3.2.Clear - (Int.tmod (IntKind.i64.wrap p2) 20)))), .int .i64 (IntKind.i64.wrap (x3.2.Delay + (Int.tmod (IntKind.i64.wrap p1) 9)))]], 0⟩, ⟨26, 3, [.agg [.bool x20.1.Over, .int .i64 x20.1.Since, .int .i64 x20.1.Last]], 0⟩, ⟨26, 3, [.agg [.bool s13.2.2.2.Over, .int .i64 s13.2.2.2.Since, .int .i64 s13.2.2.2.Last]], 0⟩, ⟨26, 3, [.agg [.bool x20.1.Over, .int .i64 x20.1.Since, .int .i64 x20.1.Last]], 0⟩, ⟨26, 3, [.agg [.bool x22.1.Over, .int .i64 x22.1.Since, .int .i64 x22.1.Last]], 0⟩])) (M' := (low, [⟨24, 3, [.agg [.int .i64 x3.2.Cut, .int .i64 x3.2.Clear, .int .i64 x3.2.Delay]], 0⟩, ⟨24, 3, [.agg [.int .i64 o5, .int .i64 (max 0 (IntKind.i64.wrap (x3.2.Clear - (Int.tmod (IntKind.i64.wrap p2) 20)))), .int .i64 (IntKind.i64.wrap (x3.2.Delay + (Int.tmod (IntKind.i64.wrap p1) 9)))]], 0⟩, ⟨26, 3, [.agg [.bool x20.1.Over, .int .i64 x20.1.Since, .int .i64 x20.1.Last]], 0⟩, ⟨26, 3, [.agg [.bool x22.1.Over, .int .i64 x22.1.Since, .int .i64 x22.1.Last]], 0⟩, ⟨26, 3, [.agg [.bool x20.1.Over, .int .i64 x20.1.Since, .int .i64 x20.1.Last]], 0⟩, ⟨26, 3, [.agg [.bool x22.1.Over, .int .i64 x22.1.Since, .int .i64 x22.1.Last]], 0⟩])) rfl rfl rfl (vef_store (p := .agg [.bool x22.1.Over, .int .i64 x22.1.Since, .int .i64 x22.1.Last]) (e' := .agg [.bool x22.1.Over, .int .i64 x22.1.Since, .int .i64 x22.1.Last]) rfl (getO_N rfl rfl) rfl rfl ts_26 rfl (nt_ne rfl) rfl (Nat.le_of_ble_eq_true rfl) rfl (setO_N rfl rfl)) ?_
              refine dops_nil ?_
              refine vwp_region ?_
              refine vops_rd (rd_add rfl rfl rfl) rfl ?_
              refine vops_rd (rd_mvI rfl) rfl ?_
              refine vops_nil ?_
              obtain rfl := Option.some.inj hF
              refine onlyE ?_
              exact weak_pick rfl [(0, 0), (1, 0), (2, 0), (3, 0)] (by decide) ⟨rn_ptr 0 0 rfl rfl, rn_ptr 1 1 rfl rfl, rn_ptr 2 2 rfl rfl, rn_ptr 3 3 rfl rfl, rn_low rfl (.int _ _), rn_low rfl (.vs _ _), rn_low rfl (.int _ _), rn_low rfl (.int _ _), trivial⟩ ⟨⟨_, rfl, rfl, .same _ _ _ _ (ltObj_es ⟨(lt_agg ⟨.int _ _, .int _ _, .int _ _, trivial⟩), trivial⟩)⟩, ⟨_, rfl, rfl, .same _ _ _ _ (ltObj_es ⟨(lt_agg ⟨.int _ _, .int _ _, .int _ _, trivial⟩), trivial⟩)⟩, ⟨_, rfl, rfl, .same _ _ _ _ (ltObj_es ⟨(lt_agg ⟨.bool _, .int _ _, .int _ _, trivial⟩), trivial⟩)⟩, ⟨_, rfl, rfl, .same _ _ _ _ (ltObj_es ⟨(lt_agg ⟨.bool _, .int _ _, .int _ _, trivial⟩), trivial⟩)⟩, trivial⟩
        · have hF := bifF c17 hF
          refine vwp_exit ?_
          obtain rfl := Option.some.inj hF
          refine onlyE ?_
          exact weak_pick rfl [] (by decide) trivial trivial
      · rcases o14 with j15 | j16
        · replace hF := elimL hF
          rintro _ _ _ _ ⟨rfl, hw⟩
          refine ⟨_, _, _, hw, ?_⟩
          obtain rfl := Option.some.inj hF
          refine fnR ?_
          exact weak_sub ⟨rfl, trivial⟩
        · replace hF := elimR hF
          rintro _ _ _ _ ⟨rfl, hw⟩
          refine ⟨_, _, _, hw, ?_⟩
          refine vwp_seq ?_
          refine vwp_region ?_
          obtain ⟨x29, h30, hF⟩ := bnd hF
          refine vops_efE (vef_callP rfl Try.call20 (F_law17_awake_ok h30 _)) rfl ?_
          refine vops_rd (rd_asB rfl) rfl ?_
          refine vops_nil ?_
          refine vwp_ret ?_
          obtain rfl := Option.some.inj hF
          refine fnR ?_
          exact weak_sub ⟨rfl, trivial⟩
  · rintro _ _ _ _ ⟨he, hw⟩
    refine ⟨_, _, _, hw, ?_⟩
    exact bodyQ_pure he [.bool r] ⟨rfl, trivial⟩ (.bool _) ⟨rfl, rfl⟩

end Go.Proofs.Ytlbiodgefifhoaa
