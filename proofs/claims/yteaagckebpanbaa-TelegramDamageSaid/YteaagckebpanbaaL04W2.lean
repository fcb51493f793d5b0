/- Printed by wip/lift/lift.py: the walks that show that the program computes them. -/
import Derived.Test.YteaagckebpanbaaL04W1
namespace Go.Proofs.Yteaagckebpanbaa
open Go Go.Aml Go.L
attribute [local irreducible] VRd VEf VOp VOps VWp DOps
set_option linter.unusedVariables false
set_option maxHeartbeats 4000000

theorem F_ref04_Feed_ok {p0 : T_Reader} {p1 : List Int} {r : T_Reader × List T_Frame} (hF : F_ref04_Feed p0 p1 = some r) (low : List AObj) :
    VCalls Try.prog 19 [.agg [.vs 1 (List.map (PV.int .u8) p0.Held), .int .i64 p0.Dropped], .vs 1 (List.map (PV.int .u8) p1)] low fun x low' => x = .tup [.agg [.vs 1 (List.map (PV.int .u8) r.1.Held), .int .i64 r.1.Dropped], .vs 3 (List.map T_Frame.enc r.2)] ∧ low' = low := by
  refine vcalls_of_body (nt := 112) (rs := [.cell 4 36, .tmp 5]) Try.func19 rfl rfl (Nat.le_of_ble_eq_true rfl) rfl ?_
  refine vwp_monoW (Q' := FnE (fun E' lw lc => Weak E' lw lc [(4, .ptr (low.length + 0) 0 0 0), (5, .vs 3 (List.map T_Frame.enc r.2))] low [⟨36, 2, [.agg [.vs 1 (List.map (PV.int .u8) r.1.Held), .int .i64 r.1.Dropped]], 0⟩])) ?_ ?_
  · unfold F_ref04_Feed at hF
    refine vwp_seq ?_
    refine vwp_region ?_
    refine vops_efE (vef_boxN rfl rfl (v := .agg [.vs 1 (List.map (PV.int .u8) p0.Held), .int .i64 p0.Dropped]) rfl rfl (Nat.succ_pos _) rfl rfl) rfl ?_
    refine vops_efE (vef_allocN rfl rfl tz_36 rfl rfl (Nat.succ_pos _) rfl) rfl ?_
    refine vops_rd (rd_nv (sz := 3) (rd_asN rfl)) rfl ?_
    refine vops_nil ?_
    refine vwp_seq ?_
    refine vwp_region ?_
    obtain ⟨x1, h2, hF⟩ := bnd hF
    obtain ⟨x3, h4, hF⟩ := bnd hF
    refine vops_rd (rd_fieldAddr rfl tf_36_0 ts_22 (by decide)) rfl ?_
    refine vops_rd (rd_load1 rfl (getO_N rfl rfl) rfl ta_22 rfl) rfl ?_
    refine vops_efE (vef_ap0N (f := (PV.int .u8)) (ys := p0.Held) rfl rfl (.inl rfl) rfl (src_vs rfl) (Nat.succ_pos _) te_22 ts_5 tb_5 (by decide) tz_5 rfl h2) rfl ?_
    refine vops_rd (rd_mvV rfl) rfl ?_
    refine vops_efE (vef_apL (f := (PV.int .u8)) (l := x1) (ys := p1) rfl rfl (getO_N rfl rfl) rfl (src_vs rfl) te_22 ts_5 tb_5 (by decide) tz_5 rfl h4 (setO_N rfl rfl)) rfl ?_
    refine vops_rd (rd_asL rfl) rfl ?_
    refine vops_nil ?_
    refine vwp_seq ?_
    refine vwp_region ?_
    refine vops_rd (rd_fieldAddr rfl tf_36_1 ts_3 (by decide)) rfl ?_
    refine vops_rd (rd_load1 rfl (getO_N rfl rfl) rfl ta_3 rfl) rfl ?_
    refine vops_rd (rd_nc (rd_build (vs := [(1, .int .i64 p0.Dropped)]) (ds := [.nils, .int .i64 p0.Dropped]) tz_36 rfl rfl tp_36 ⟨rfl, rfl, trivial⟩ (nt_all2 rfl) rfl) (nc_agg (cs := [.nils, .int .i64 p0.Dropped]) (ds := [.vs 1 (List.map (PV.int .u8) ([] : List Int)), .int .i64 p0.Dropped]) rfl rfl ⟨nc_nil rfl rfl, nc_eq rfl, trivial⟩)) rfl ?_
    refine vops_efE (vef_allocN rfl rfl tz_36 rfl rfl (Nat.succ_pos _) rfl) rfl ?_
    refine vops_efE (vef_store (p := .agg [.vs 1 (List.map (PV.int .u8) ([] : List Int)), .int .i64 p0.Dropped]) (e' := .agg [.vs 1 (List.map (PV.int .u8) ([] : List Int)), .int .i64 p0.Dropped]) rfl (getO_N rfl rfl) rfl rfl ts_36 rfl (nt_ne rfl) rfl (Nat.le_of_ble_eq_true rfl) rfl (setO_N rfl rfl)) rfl ?_
    refine vops_nil ?_
    refine vwp_seq ?_
    refine vwp_region ?_
    refine vops_efE (vef_nilsN rfl rfl 24 3 (Nat.succ_pos _) (rd_asN rfl)) rfl ?_
    refine vops_nil ?_
    refine vwp_seq ?_
    refine vwp_block ?_
    obtain ⟨o6, ho6, hF⟩ := bnd hF
    refine vwp_monoW (vwp_loopC F_ref04_Feed_L1 (fun s5 E' lw lc => Weak E' lw lc [(4, .ptr (low.length + 0) 0 0 0), (6, .vs 1 (List.map (PV.int .u8) s5.1)), (7, .ptr (low.length + 1) 0 0 0), (8, .sl (low.length + 2) 0 0 (s5.2.2).length)] low [⟨36, 2, [.agg [.nils, .int .i64 0]], 0⟩, ⟨36, 2, [.agg [.vs 1 (List.map (PV.int .u8) ([] : List Int)), .int .i64 s5.2.1]], 0⟩, ⟨24, 3, List.map T_Frame.enc s5.2.2, 0⟩]) (fun o6 => OnlyE (.exit 0) (fun E' lw lc => Weak E' lw lc [(4, .ptr (low.length + 0) 0 0 0), (6, .vs 1 (List.map (PV.int .u8) o6.1)), (7, .ptr (low.length + 1) 0 0 0), (8, .sl (low.length + 2) 0 0 (o6.2.2).length)] low [⟨36, 2, [.agg [.nils, .int .i64 0]], 0⟩, ⟨36, 2, [.agg [.vs 1 (List.map (PV.int .u8) ([] : List Int)), .int .i64 o6.2.1]], 0⟩, ⟨24, 3, List.map T_Frame.enc o6.2.2, 0⟩])) ho6 ?_ (by rintro _ _ _ _ ⟨h, _⟩ <;> cases h) ?_) ?_
    · refine Weak.trans (weak_freezeN (E' := [(4, .ptr (low.length + 1) 0 0 0), (6, .vs 1 (List.map (PV.int .u8) x3)), (7, .ptr (low.length + 3) 0 0 0), (8, .sl (low.length + 4) 0 0 (([] : List T_Frame)).length)]) (loc1 := [⟨36, 2, [.agg [.vs 1 (List.map (PV.int .u8) p0.Held), .int .i64 p0.Dropped]], 0⟩, ⟨36, 2, [.agg [.nils, .int .i64 0]], 0⟩, ⟨5, 1, [], (0 + 1) + 1⟩, ⟨36, 2, [.agg [.vs 1 (List.map (PV.int .u8) ([] : List Int)), .int .i64 p0.Dropped]], 0⟩, ⟨24, 3, List.map T_Frame.enc ([] : List T_Frame), 0⟩]) rfl 2 rfl (lt_map (fun _ => .int _ _)) ⟨cv_same rfl, cv_sl rfl rfl rfl (full_take rfl), cv_same rfl, cv_same rfl, trivial⟩ ⟨.refl _, .refl _, .refl _, .refl _, .refl _, trivial⟩) ?_
      exact weak_pick rfl [(1, 0), (3, 0), (4, 0)] (by decide) ⟨rn_ptr 0 1 rfl rfl, rn_low rfl (.vs _ _), rn_ptr 1 3 rfl rfl, rn_sl 2 4 rfl rfl, trivial⟩ ⟨⟨_, rfl, rfl, .same _ _ _ _ (ltObj_es ⟨(lt_agg ⟨.nils, .int _ _, trivial⟩), trivial⟩)⟩, ⟨_, rfl, rfl, .same _ _ _ _ (ltObj_es ⟨(lt_agg ⟨.vs _ _, .int _ _, trivial⟩), trivial⟩)⟩, ⟨_, rfl, rfl, .same _ _ _ _ (ltObj_es trivial)⟩, trivial⟩
    · rintro s5 os5 _ _ _ hF hw
      unfold F_ref04_Feed_L1 at hF
      refine vwp_weak hw ?_
      refine vwp_seq ?_
      refine vwp_seq ?_
      refine vwp_region ?_
      refine vops_rd (rd_mvV rfl) rfl ?_
      refine vops_rd (rd_to (rd_lenV rfl rfl te_22) (congrArg (fun n : Nat => PV.int .i64 (n : Int)) (List.length_map _))) rfl ?_
      refine vops_rd (rd_gtr rfl rfl) rfl ?_
      refine vops_nil ?_
      refine vwp_cond rfl (fun c7 => ?_) (fun c7 => ?_)
      · have hF := bifT c7 hF
        refine vwp_skip ?_
        refine vwp_block ?_
        refine vwp_seq ?_
        refine vwp_seq ?_
        obtain ⟨o8, ho8, hF⟩ := bnd hF
        refine vwp_monoW (Q' := (fun o8 => OnlyE .normal (fun E' lw lc => Weak E' lw lc [(4, .ptr (low.length + 0) 0 0 0), (6, .vs 1 (List.map (PV.int .u8) s5.1)), (7, .ptr (low.length + 1) 0 0 0), (8, .sl (low.length + 2) 0 0 (s5.2.2).length), (36, .bool o8)] low [⟨36, 2, [.agg [.nils, .int .i64 0]], 0⟩, ⟨36, 2, [.agg [.vs 1 (List.map (PV.int .u8) ([] : List Int)), .int .i64 s5.2.1]], 0⟩, ⟨24, 3, List.map T_Frame.enc s5.2.2, 0⟩])) o8) ?_ ?_
        · replace hF := ho8
          refine vwp_region ?_
          obtain ⟨x9, h10, hF⟩ := bnd hF
          rcases Bool.eq_false_or_eq_true (decide (x9 ≠ 126)) with c11 | c11
          · have hF := bifT c11 hF
            refine vops_rd (rd_mvV rfl) rfl ?_
            refine vops_rd (rd_to (rd_ixV rfl rfl h10 te_22 ts_5) (v' := .vptr [.int .u8 x9] 0) rfl) rfl ?_
            refine vops_rd (rd_loadV1 rfl ta_5 rfl) rfl ?_
            refine vops_rd (rd_neq rfl rfl) rfl ?_
            refine vops_rd (rd_mvB rfl) rfl ?_
            refine vops_skip rfl rfl (neT c11) rfl ?_
            refine vops_skip rfl rfl (neT c11) rfl ?_
            refine vops_skip rfl rfl (neT c11) rfl ?_
            refine vops_skip rfl rfl (neT c11) rfl ?_
            refine vops_skipX rfl rfl rfl ?_
            refine vops_skipX rfl rfl rfl ?_
            refine vops_skipX rfl rfl rfl ?_
            refine vops_skipX rfl rfl rfl ?_
            refine vops_skipX rfl rfl rfl ?_
            refine vops_skip rfl rfl (neT c11) rfl ?_
            refine vops_rd (rd_pickT (congrArg PV.bool c11) rfl) rfl ?_
            refine vops_nil ?_
            obtain rfl := Option.some.inj hF
            refine onlyE ?_
            exact weak_sub ⟨rfl, rfl, rfl, rfl, rfl, trivial⟩
          · have hF := bifF c11 hF
            rcases Bool.eq_false_or_eq_true (decide (1 < ((s5.1).length : Int))) with c12 | c12
            · have hF := bifT c12 hF
              obtain ⟨x13, h14, hF⟩ := bnd hF
              refine vops_rd (rd_mvV rfl) rfl ?_
              refine vops_rd (rd_to (rd_ixV rfl rfl h10 te_22 ts_5) (v' := .vptr [.int .u8 x9] 0) rfl) rfl ?_
              refine vops_rd (rd_loadV1 rfl ta_5 rfl) rfl ?_
              refine vops_rd (rd_neq rfl rfl) rfl ?_
              refine vops_rd (rd_mvB rfl) rfl ?_
              refine vops_take rfl (congrArg PV.bool c11) ?_
              refine vops_rd (rd_mvV rfl) rfl ?_
              refine vops_take rfl (congrArg PV.bool c11) ?_
              refine vops_rd (rd_to (rd_lenV rfl rfl te_22) (congrArg (fun n : Nat => PV.int .i64 (n : Int)) (List.length_map _))) rfl ?_
              refine vops_take rfl (congrArg PV.bool c11) ?_
              refine vops_rd (rd_gtr rfl rfl) rfl ?_
              refine vops_take rfl (congrArg PV.bool c11) ?_
              refine vops_rd (rd_mvB rfl) rfl ?_
              refine vops_take rfl (congrArg PV.bool c12) ?_
              refine vops_rd (rd_mvV rfl) rfl ?_
              refine vops_take rfl (congrArg PV.bool c12) ?_
              refine vops_rd (rd_to (rd_ixV rfl rfl h14 te_22 ts_5) (v' := .vptr [.int .u8 x13] 0) rfl) rfl ?_
              refine vops_take rfl (congrArg PV.bool c12) ?_
              refine vops_rd (rd_loadV1 rfl ta_5 rfl) rfl ?_
              refine vops_take rfl (congrArg PV.bool c12) ?_
              refine vops_rd (rd_conv rfl us_5 ti_3 rfl) rfl ?_
              refine vops_take rfl (congrArg PV.bool c12) ?_
              refine vops_rd (rd_gtr rfl rfl) rfl ?_
              refine vops_take rfl (congrArg PV.bool c11) ?_
              refine vops_rd (rd_pickT (congrArg PV.bool c12) rfl) rfl ?_
              refine vops_rd (rd_pickF (congrArg PV.bool c11) rfl) rfl ?_
              refine vops_nil ?_
              obtain rfl := Option.some.inj hF
              refine onlyE ?_
              exact weak_sub ⟨rfl, rfl, rfl, rfl, rfl, trivial⟩
            · have hF := bifF c12 hF
              refine vops_rd (rd_mvV rfl) rfl ?_
              refine vops_rd (rd_to (rd_ixV rfl rfl h10 te_22 ts_5) (v' := .vptr [.int .u8 x9] 0) rfl) rfl ?_
              refine vops_rd (rd_loadV1 rfl ta_5 rfl) rfl ?_
              refine vops_rd (rd_neq rfl rfl) rfl ?_
              refine vops_rd (rd_mvB rfl) rfl ?_
              refine vops_take rfl (congrArg PV.bool c11) ?_
              refine vops_rd (rd_mvV rfl) rfl ?_
              refine vops_take rfl (congrArg PV.bool c11) ?_
              refine vops_rd (rd_to (rd_lenV rfl rfl te_22) (congrArg (fun n : Nat => PV.int .i64 (n : Int)) (List.length_map _))) rfl ?_
              refine vops_take rfl (congrArg PV.bool c11) ?_
              refine vops_rd (rd_gtr rfl rfl) rfl ?_
              refine vops_take rfl (congrArg PV.bool c11) ?_
              refine vops_rd (rd_mvB rfl) rfl ?_
              refine vops_skip rfl rfl (neF c12) rfl ?_
              refine vops_skip rfl rfl (neF c12) rfl ?_
              refine vops_skip rfl rfl (neF c12) rfl ?_
              refine vops_skip rfl rfl (neF c12) rfl ?_
              refine vops_skip rfl rfl (neF c12) rfl ?_
              refine vops_take rfl (congrArg PV.bool c11) ?_
              refine vops_rd (rd_pickF (congrArg PV.bool c12) rfl) rfl ?_
              refine vops_rd (rd_pickF (congrArg PV.bool c11) rfl) rfl ?_
              refine vops_nil ?_
              obtain rfl := Option.some.inj hF
              refine onlyE ?_
              exact weak_sub ⟨rfl, rfl, rfl, rfl, rfl, trivial⟩
        · rintro _ _ _ _ ⟨rfl, hw⟩
          refine ⟨_, _, _, hw, ?_⟩
          refine vwp_cond rfl (fun c15 => ?_) (fun c15 => ?_)
          · have hF := bifT c15 hF
            refine vwp_seq ?_
            refine vwp_region ?_
            obtain ⟨x16, h17, hF⟩ := bnd hF
            refine vops_rd (rd_mvV rfl) rfl ?_
            refine vops_rd (rd_slV rfl te_22 ts_5 ⟨_, rfl⟩ rfl h17) rfl ?_
            refine vops_rd (rd_asV rfl) rfl ?_
            refine vops_nil ?_
            refine vwp_seq ?_
            refine vwp_region ?_
            refine vops_rd (rd_fieldAddr rfl tf_36_1 ts_3 (by decide)) rfl ?_
            refine vops_rd (rd_load1 rfl (getO_N rfl rfl) rfl ta_3 rfl) rfl ?_
            refine vops_rd (rd_add rfl rfl rfl) rfl ?_
            refine vops_rd (rd_fieldAddr rfl tf_36_1 ts_3 (by decide)) rfl ?_
            refine vops_efE (vef_store (p := .int .i64 (IntKind.i64.wrap (s5.2.1 + 1))) (e' := .agg [.vs 1 (List.map (PV.int .u8) ([] : List Int)), .int .i64 (IntKind.i64.wrap (s5.2.1 + 1))]) rfl (getO_N rfl rfl) rfl rfl ts_3 rfl (nt_ne rfl) rfl (Nat.le_of_ble_eq_true rfl) rfl (setO_N rfl rfl)) rfl ?_
            refine vops_nil ?_
            refine vwp_exit ?_
            obtain rfl := Option.some.inj hF
            refine onlyE ?_
            exact weak_sub ⟨rfl, rfl, rfl, rfl, trivial⟩
          · have hF := bifF c15 hF
            refine vwp_skip ?_
            refine vwp_seq ?_
            refine vwp_seq ?_
            obtain ⟨o18, ho18, hF⟩ := bnd hF
            refine vwp_monoW (Q' := (fun o18 => OnlyE .normal (fun E' lw lc => Weak E' lw lc [(4, .ptr (low.length + 0) 0 0 0), (6, .vs 1 (List.map (PV.int .u8) s5.1)), (7, .ptr (low.length + 1) 0 0 0), (8, .sl (low.length + 2) 0 0 (s5.2.2).length), (55, .bool o18)] low [⟨36, 2, [.agg [.nils, .int .i64 0]], 0⟩, ⟨36, 2, [.agg [.vs 1 (List.map (PV.int .u8) ([] : List Int)), .int .i64 s5.2.1]], 0⟩, ⟨24, 3, List.map T_Frame.enc s5.2.2, 0⟩])) o18) ?_ ?_
            · replace hF := ho18
              refine vwp_region ?_
              rcases Bool.eq_false_or_eq_true (decide (((s5.1).length : Int) < 2)) with c19 | c19
              · have hF := bifT c19 hF
                refine vops_rd (rd_mvV rfl) rfl ?_
                refine vops_rd (rd_to (rd_lenV rfl rfl te_22) (congrArg (fun n : Nat => PV.int .i64 (n : Int)) (List.length_map _))) rfl ?_
                refine vops_rd (rd_lss rfl rfl) rfl ?_
                refine vops_rd (rd_mvB rfl) rfl ?_
                refine vops_skip rfl rfl (neT c19) rfl ?_
                refine vops_skip rfl rfl (neT c19) rfl ?_
                refine vops_skip rfl rfl (neT c19) rfl ?_
                refine vops_skip rfl rfl (neT c19) rfl ?_
                refine vops_skip rfl rfl (neT c19) rfl ?_
                refine vops_skip rfl rfl (neT c19) rfl ?_
                refine vops_skip rfl rfl (neT c19) rfl ?_
                refine vops_skip rfl rfl (neT c19) rfl ?_
                refine vops_rd (rd_pickT (congrArg PV.bool c19) rfl) rfl ?_
                refine vops_nil ?_
                obtain rfl := Option.some.inj hF
                refine onlyE ?_
                exact weak_sub ⟨rfl, rfl, rfl, rfl, rfl, trivial⟩
              · have hF := bifF c19 hF
                obtain ⟨x20, h21, hF⟩ := bnd hF
                refine vops_rd (rd_mvV rfl) rfl ?_
                refine vops_rd (rd_to (rd_lenV rfl rfl te_22) (congrArg (fun n : Nat => PV.int .i64 (n : Int)) (List.length_map _))) rfl ?_
                refine vops_rd (rd_lss rfl rfl) rfl ?_
                refine vops_rd (rd_mvB rfl) rfl ?_
                refine vops_take rfl (congrArg PV.bool c19) ?_
                refine vops_rd (rd_mvV rfl) rfl ?_
                refine vops_take rfl (congrArg PV.bool c19) ?_
                refine vops_rd (rd_to (rd_lenV rfl rfl te_22) (congrArg (fun n : Nat => PV.int .i64 (n : Int)) (List.length_map _))) rfl ?_
                refine vops_take rfl (congrArg PV.bool c19) ?_
                refine vops_rd (rd_mvV rfl) rfl ?_
                refine vops_take rfl (congrArg PV.bool c19) ?_
                refine vops_rd (rd_to (rd_ixV rfl rfl h21 te_22 ts_5) (v' := .vptr [.int .u8 x20] 0) rfl) rfl ?_
                refine vops_take rfl (congrArg PV.bool c19) ?_
                refine vops_rd (rd_loadV1 rfl ta_5 rfl) rfl ?_
                refine vops_take rfl (congrArg PV.bool c19) ?_
                refine vops_rd (rd_conv rfl us_5 ti_3 rfl) rfl ?_
                refine vops_take rfl (congrArg PV.bool c19) ?_
                refine vops_rd (rd_add rfl rfl rfl) rfl ?_
                refine vops_take rfl (congrArg PV.bool c19) ?_
                refine vops_rd (rd_lss rfl rfl) rfl ?_
                refine vops_rd (rd_pickF (congrArg PV.bool c19) rfl) rfl ?_
                refine vops_nil ?_
                obtain rfl := Option.some.inj hF
                refine onlyE ?_
                exact weak_sub ⟨rfl, rfl, rfl, rfl, rfl, trivial⟩
            · rintro _ _ _ _ ⟨rfl, hw⟩
              refine ⟨_, _, _, hw, ?_⟩
              refine vwp_cond rfl (fun c22 => ?_) (fun c22 => ?_)
              · have hF := bifT c22 hF
                refine vwp_exit ?_
                obtain rfl := Option.some.inj hF
                refine onlyE ?_
                exact weak_sub ⟨rfl, rfl, rfl, rfl, trivial⟩
              · have hF := bifF c22 hF
                refine vwp_skip ?_
                refine vwp_seq ?_
                refine vwp_region ?_
                obtain ⟨x23, h24, hF⟩ := bnd hF
                refine vops_rd (rd_mvV rfl) rfl ?_
                refine vops_rd (rd_to (rd_ixV rfl rfl h24 te_22 ts_5) (v' := .vptr [.int .u8 x23] 0) rfl) rfl ?_
                refine vops_rd (rd_loadV1 rfl ta_5 rfl) rfl ?_
                refine vops_rd (rd_conv rfl us_5 ti_3 rfl) rfl ?_
                refine vops_rd (rd_asI rfl) rfl ?_
                refine vops_nil ?_
                refine vwp_seq ?_
                refine vwp_seq ?_
                obtain ⟨x25, h26, hF⟩ := bnd hF
                obtain ⟨x27, h28, hF⟩ := bnd hF
                obtain ⟨x29, h30, hF⟩ := bnd hF
                obtain ⟨x31, h32, hF⟩ := bnd hF
                refine vwp_drawn [[], [], [1], [0, 1, 2], [0, 1, 2, 3], [], [], [6], [5, 6, 7], [5, 6, 7, 8], [5, 6, 7, 8, 9], [5, 6, 7, 8, 9, 10], [], [], [13], [12, 13, 14], [12, 13, 14, 15], [12, 13, 14, 15, 16], [5, 6, 7, 8, 9, 10, 11, 12, 13, 14, 15, 16, 17], [0, 1, 2, 3, 4, 5, 6, 7, 8, 9, 10, 11, 12, 13, 14, 15, 16, 17, 18]] [false, false, false, false, false, false, false, false, false, false, false, false, false, false, false, false, false, false, false, false] [(low, [⟨36, 2, [.agg [.nils, .int .i64 0]], 0⟩, ⟨36, 2, [.agg [.vs 1 (List.map (PV.int .u8) ([] : List Int)), .int .i64 s5.2.1]], 0⟩, ⟨24, 3, List.map T_Frame.enc s5.2.2, 0⟩])] mixed (by kernel_rfl) rfl (lenAll (all1 rfl all0)) rfl (low, [⟨36, 2, [.agg [.nils, .int .i64 0]], 0⟩, ⟨36, 2, [.agg [.vs 1 (List.map (PV.int .u8) ([] : List Int)), .int .i64 s5.2.1]], 0⟩, ⟨24, 3, List.map T_Frame.enc s5.2.2, 0⟩]) rfl rfl ?_
                refine dops_rdW [(low, [⟨36, 2, [.agg [.nils, .int .i64 0]], 0⟩, ⟨36, 2, [.agg [.vs 1 (List.map (PV.int .u8) ([] : List Int)), .int .i64 s5.2.1]], 0⟩, ⟨24, 3, List.map T_Frame.enc s5.2.2, 0⟩])] rfl rfl (all1 (VRd.ntl (rd_mvV rfl)) all0) ?_
                refine dops_rdW [(low, [⟨36, 2, [.agg [.nils, .int .i64 0]], 0⟩, ⟨36, 2, [.agg [.vs 1 (List.map (PV.int .u8) ([] : List Int)), .int .i64 s5.2.1]], 0⟩, ⟨24, 3, List.map T_Frame.enc s5.2.2, 0⟩])] rfl rfl (all1 (VRd.ntl (rd_mvI rfl)) all0) ?_
                refine dops_rdW [(low, [⟨36, 2, [.agg [.nils, .int .i64 0]], 0⟩, ⟨36, 2, [.agg [.vs 1 (List.map (PV.int .u8) ([] : List Int)), .int .i64 s5.2.1]], 0⟩, ⟨24, 3, List.map T_Frame.enc s5.2.2, 0⟩])] rfl rfl (all1 (VRd.ntl (rd_add rfl rfl rfl)) all0) ?_
                refine dops_rdW [(low, [⟨36, 2, [.agg [.nils, .int .i64 0]], 0⟩, ⟨36, 2, [.agg [.vs 1 (List.map (PV.int .u8) ([] : List Int)), .int .i64 s5.2.1]], 0⟩, ⟨24, 3, List.map T_Frame.enc s5.2.2, 0⟩])] rfl rfl (all1 (VRd.ntl (rd_slV rfl te_22 ts_5 ⟨_, rfl⟩ ⟨_, rfl⟩ h26)) all0) ?_
                refine dops_rdW [(low, [⟨36, 2, [.agg [.nils, .int .i64 0]], 0⟩, ⟨36, 2, [.agg [.vs 1 (List.map (PV.int .u8) ([] : List Int)), .int .i64 s5.2.1]], 0⟩, ⟨24, 3, List.map T_Frame.enc s5.2.2, 0⟩])] rfl rfl (all1 (nt_of (vef_callP rfl Try.call15 (F_ref04_Check_ok h28 _))) all0) ?_
                refine dops_rdW [(low, [⟨36, 2, [.agg [.nils, .int .i64 0]], 0⟩, ⟨36, 2, [.agg [.vs 1 (List.map (PV.int .u8) ([] : List Int)), .int .i64 s5.2.1]], 0⟩, ⟨24, 3, List.map T_Frame.enc s5.2.2, 0⟩])] rfl rfl (all1 (VRd.ntl (rd_mvV rfl)) all0) ?_
                refine dops_rdW [(low, [⟨36, 2, [.agg [.nils, .int .i64 0]], 0⟩, ⟨36, 2, [.agg [.vs 1 (List.map (PV.int .u8) ([] : List Int)), .int .i64 s5.2.1]], 0⟩, ⟨24, 3, List.map T_Frame.enc s5.2.2, 0⟩])] rfl rfl (all1 (VRd.ntl (rd_mvI rfl)) all0) ?_
                refine dops_rdW [(low, [⟨36, 2, [.agg [.nils, .int .i64 0]], 0⟩, ⟨36, 2, [.agg [.vs 1 (List.map (PV.int .u8) ([] : List Int)), .int .i64 s5.2.1]], 0⟩, ⟨24, 3, List.map T_Frame.enc s5.2.2, 0⟩])] rfl rfl (all1 (VRd.ntl (rd_add rfl rfl rfl)) all0) ?_
                refine dops_rdW [(low, [⟨36, 2, [.agg [.nils, .int .i64 0]], 0⟩, ⟨36, 2, [.agg [.vs 1 (List.map (PV.int .u8) ([] : List Int)), .int .i64 s5.2.1]], 0⟩, ⟨24, 3, List.map T_Frame.enc s5.2.2, 0⟩])] rfl rfl (all1 (VRd.ntl (rd_to (rd_ixV rfl rfl h30 te_22 ts_5) (v' := .vptr [.int .u8 x29] 0) rfl)) all0) ?_
                refine dops_rdW [(low, [⟨36, 2, [.agg [.nils, .int .i64 0]], 0⟩, ⟨36, 2, [.agg [.vs 1 (List.map (PV.int .u8) ([] : List Int)), .int .i64 s5.2.1]], 0⟩, ⟨24, 3, List.map T_Frame.enc s5.2.2, 0⟩])] rfl rfl (all1 (VRd.ntl (rd_loadV1 rfl ta_5 rfl)) all0) ?_
                refine dops_rdW [(low, [⟨36, 2, [.agg [.nils, .int .i64 0]], 0⟩, ⟨36, 2, [.agg [.vs 1 (List.map (PV.int .u8) ([] : List Int)), .int .i64 s5.2.1]], 0⟩, ⟨24, 3, List.map T_Frame.enc s5.2.2, 0⟩])] rfl rfl (all1 (VRd.ntl (rd_conv rfl us_5 ti_3 rfl)) all0) ?_
                refine dops_rdW [(low, [⟨36, 2, [.agg [.nils, .int .i64 0]], 0⟩, ⟨36, 2, [.agg [.vs 1 (List.map (PV.int .u8) ([] : List Int)), .int .i64 s5.2.1]], 0⟩, ⟨24, 3, List.map T_Frame.enc s5.2.2, 0⟩])] rfl rfl (all1 (VRd.ntl (rd_shlC (c := 256) rfl rfl (by decide) rfl rfl)) all0) ?_
                refine dops_rdW [(low, [⟨36, 2, [.agg [.nils, .int .i64 0]], 0⟩, ⟨36, 2, [.agg [.vs 1 (List.map (PV.int .u8) ([] : List Int)), .int .i64 s5.2.1]], 0⟩, ⟨24, 3, List.map T_Frame.enc s5.2.2, 0⟩])] rfl rfl (all1 (VRd.ntl (rd_mvV rfl)) all0) ?_
                refine dops_rdW [(low, [⟨36, 2, [.agg [.nils, .int .i64 0]], 0⟩, ⟨36, 2, [.agg [.vs 1 (List.map (PV.int .u8) ([] : List Int)), .int .i64 s5.2.1]], 0⟩, ⟨24, 3, List.map T_Frame.enc s5.2.2, 0⟩])] rfl rfl (all1 (VRd.ntl (rd_mvI rfl)) all0) ?_
                refine dops_rdW [(low, [⟨36, 2, [.agg [.nils, .int .i64 0]], 0⟩, ⟨36, 2, [.agg [.vs 1 (List.map (PV.int .u8) ([] : List Int)), .int .i64 s5.2.1]], 0⟩, ⟨24, 3, List.map T_Frame.enc s5.2.2, 0⟩])] rfl rfl (all1 (VRd.ntl (rd_add rfl rfl rfl)) all0) ?_
                refine dops_rdW [(low, [⟨36, 2, [.agg [.nils, .int .i64 0]], 0⟩, ⟨36, 2, [.agg [.vs 1 (List.map (PV.int .u8) ([] : List Int)), .int .i64 s5.2.1]], 0⟩, ⟨24, 3, List.map T_Frame.enc s5.2.2, 0⟩])] rfl rfl (all1 (VRd.ntl (rd_to (rd_ixV rfl rfl h32 te_22 ts_5) (v' := .vptr [.int .u8 x31] 0) rfl)) all0) ?_
                refine dops_rdW [(low, [⟨36, 2, [.agg [.nils, .int .i64 0]], 0⟩, ⟨36, 2, [.agg [.vs 1 (List.map (PV.int .u8) ([] : List Int)), .int .i64 s5.2.1]], 0⟩, ⟨24, 3, List.map T_Frame.enc s5.2.2, 0⟩])] rfl rfl (all1 (VRd.ntl (rd_loadV1 rfl ta_5 rfl)) all0) ?_
                refine dops_rdW [(low, [⟨36, 2, [.agg [.nils, .int .i64 0]], 0⟩, ⟨36, 2, [.agg [.vs 1 (List.map (PV.int .u8) ([] : List Int)), .int .i64 s5.2.1]], 0⟩, ⟨24, 3, List.map T_Frame.enc s5.2.2, 0⟩])] rfl rfl (all1 (VRd.ntl (rd_conv rfl us_5 ti_3 rfl)) all0) ?_
                refine dops_rdW [(low, [⟨36, 2, [.agg [.nils, .int .i64 0]], 0⟩, ⟨36, 2, [.agg [.vs 1 (List.map (PV.int .u8) ([] : List Int)), .int .i64 s5.2.1]], 0⟩, ⟨24, 3, List.map T_Frame.enc s5.2.2, 0⟩])] rfl rfl (all1 (VRd.ntl (rd_or rfl rfl rfl)) all0) ?_
                refine dops_rdW [(low, [⟨36, 2, [.agg [.nils, .int .i64 0]], 0⟩, ⟨36, 2, [.agg [.vs 1 (List.map (PV.int .u8) ([] : List Int)), .int .i64 s5.2.1]], 0⟩, ⟨24, 3, List.map T_Frame.enc s5.2.2, 0⟩])] rfl rfl (all1 (VRd.ntl (rd_neq rfl rfl)) all0) ?_
                refine dops_nil ?_
                refine vwp_cond rfl (fun c33 => ?_) (fun c33 => ?_)
                · have hF := bifT c33 hF
                  refine vwp_seq ?_
                  refine vwp_region ?_
                  obtain ⟨x34, h35, hF⟩ := bnd hF
                  refine vops_rd (rd_mvV rfl) rfl ?_
                  refine vops_rd (rd_slV rfl te_22 ts_5 ⟨_, rfl⟩ rfl h35) rfl ?_
                  refine vops_rd (rd_asV rfl) rfl ?_
                  refine vops_nil ?_
                  refine vwp_seq ?_
                  refine vwp_region ?_
                  refine vops_rd (rd_fieldAddr rfl tf_36_1 ts_3 (by decide)) rfl ?_
                  refine vops_rd (rd_load1 rfl (getO_N rfl rfl) rfl ta_3 rfl) rfl ?_
                  refine vops_rd (rd_add rfl rfl rfl) rfl ?_
                  refine vops_rd (rd_fieldAddr rfl tf_36_1 ts_3 (by decide)) rfl ?_
                  refine vops_efE (vef_store (p := .int .i64 (IntKind.i64.wrap (s5.2.1 + 1))) (e' := .agg [.vs 1 (List.map (PV.int .u8) ([] : List Int)), .int .i64 (IntKind.i64.wrap (s5.2.1 + 1))]) rfl (getO_N rfl rfl) rfl rfl ts_3 rfl (nt_ne rfl) rfl (Nat.le_of_ble_eq_true rfl) rfl (setO_N rfl rfl)) rfl ?_
                  refine vops_nil ?_
                  refine vwp_exit ?_
                  obtain rfl := Option.some.inj hF
                  refine onlyE ?_
                  exact weak_sub ⟨rfl, rfl, rfl, rfl, trivial⟩
                · have hF := bifF c33 hF
                  refine vwp_skip ?_
                  refine vwp_seq ?_
                  obtain ⟨x36, h37, hF⟩ := bnd hF
                  obtain ⟨x38, h39, hF⟩ := bnd hF
                  obtain ⟨x40, h41, hF⟩ := bnd hF
                  obtain ⟨x42, h43, hF⟩ := bnd hF
                  obtain ⟨x44, h45, hF⟩ := bnd hF
                  refine vwp_drawn [[], [], [1], [1, 2], [1, 2, 3], [], [5], [5, 6], [5, 6, 7], [], [], [10], [9, 10, 11], [9, 10, 11, 12], [1, 2, 3, 4, 5, 6, 7, 8, 9, 10, 11, 12, 13], [1, 2, 3, 4, 5, 6, 7, 8, 9, 10, 11, 12, 13, 14], [0, 1, 2, 3, 4, 5, 6, 7, 8, 9, 10, 11, 12, 13, 14, 15], [0, 1, 2, 3, 4, 5, 6, 7, 8, 9, 10, 11, 12, 13, 14, 15, 16]] [false, false, false, false, false, false, false, false, false, false, false, false, false, false, false, false, true, false] [(low, [⟨36, 2, [.agg [.nils, .int .i64 0]], 0⟩, ⟨36, 2, [.agg [.vs 1 (List.map (PV.int .u8) ([] : List Int)), .int .i64 s5.2.1]], 0⟩, ⟨24, 3, List.map T_Frame.enc s5.2.2, 0⟩]), (low, [⟨36, 2, [.agg [.nils, .int .i64 0]], 0⟩, ⟨36, 2, [.agg [.vs 1 (List.map (PV.int .u8) ([] : List Int)), .int .i64 s5.2.1]], 0⟩, ⟨24, 3, List.map T_Frame.enc x44, 0 + 1⟩])] mixed (by kernel_rfl) rfl (lenAll (all1 rfl (all1 rfl all0))) rfl (low, [⟨36, 2, [.agg [.nils, .int .i64 0]], 0⟩, ⟨36, 2, [.agg [.vs 1 (List.map (PV.int .u8) ([] : List Int)), .int .i64 s5.2.1]], 0⟩, ⟨24, 3, List.map T_Frame.enc x44, 0 + 1⟩]) rfl rfl ?_
                  refine dops_rdW [(low, [⟨36, 2, [.agg [.nils, .int .i64 0]], 0⟩, ⟨36, 2, [.agg [.vs 1 (List.map (PV.int .u8) ([] : List Int)), .int .i64 s5.2.1]], 0⟩, ⟨24, 3, List.map T_Frame.enc s5.2.2, 0⟩])] rfl rfl (all1 (VRd.ntl (rd_mvL rfl)) all0) ?_
                  refine dops_rdW [(low, [⟨36, 2, [.agg [.nils, .int .i64 0]], 0⟩, ⟨36, 2, [.agg [.vs 1 (List.map (PV.int .u8) ([] : List Int)), .int .i64 s5.2.1]], 0⟩, ⟨24, 3, List.map T_Frame.enc s5.2.2, 0⟩])] rfl rfl (all1 (VRd.ntl (rd_mvV rfl)) all0) ?_
                  refine dops_rdW [(low, [⟨36, 2, [.agg [.nils, .int .i64 0]], 0⟩, ⟨36, 2, [.agg [.vs 1 (List.map (PV.int .u8) ([] : List Int)), .int .i64 s5.2.1]], 0⟩, ⟨24, 3, List.map T_Frame.enc s5.2.2, 0⟩])] rfl rfl (all1 (VRd.ntl (rd_to (rd_ixV rfl rfl h37 te_22 ts_5) (v' := .vptr [.int .u8 x36] 0) rfl)) all0) ?_
                  refine dops_rdW [(low, [⟨36, 2, [.agg [.nils, .int .i64 0]], 0⟩, ⟨36, 2, [.agg [.vs 1 (List.map (PV.int .u8) ([] : List Int)), .int .i64 s5.2.1]], 0⟩, ⟨24, 3, List.map T_Frame.enc s5.2.2, 0⟩])] rfl rfl (all1 (VRd.ntl (rd_loadV1 rfl ta_5 rfl)) all0) ?_
                  refine dops_rdW [(low, [⟨36, 2, [.agg [.nils, .int .i64 0]], 0⟩, ⟨36, 2, [.agg [.vs 1 (List.map (PV.int .u8) ([] : List Int)), .int .i64 s5.2.1]], 0⟩, ⟨24, 3, List.map T_Frame.enc s5.2.2, 0⟩])] rfl rfl (all1 (VRd.ntl (rd_conv rfl us_5 ti_3 rfl)) all0) ?_
                  refine dops_rdW [(low, [⟨36, 2, [.agg [.nils, .int .i64 0]], 0⟩, ⟨36, 2, [.agg [.vs 1 (List.map (PV.int .u8) ([] : List Int)), .int .i64 s5.2.1]], 0⟩, ⟨24, 3, List.map T_Frame.enc s5.2.2, 0⟩])] rfl rfl (all1 (VRd.ntl (rd_mvV rfl)) all0) ?_
                  refine dops_rdW [(low, [⟨36, 2, [.agg [.nils, .int .i64 0]], 0⟩, ⟨36, 2, [.agg [.vs 1 (List.map (PV.int .u8) ([] : List Int)), .int .i64 s5.2.1]], 0⟩, ⟨24, 3, List.map T_Frame.enc s5.2.2, 0⟩])] rfl rfl (all1 (VRd.ntl (rd_to (rd_ixV rfl rfl h39 te_22 ts_5) (v' := .vptr [.int .u8 x38] 0) rfl)) all0) ?_
                  refine dops_rdW [(low, [⟨36, 2, [.agg [.nils, .int .i64 0]], 0⟩, ⟨36, 2, [.agg [.vs 1 (List.map (PV.int .u8) ([] : List Int)), .int .i64 s5.2.1]], 0⟩, ⟨24, 3, List.map T_Frame.enc s5.2.2, 0⟩])] rfl rfl (all1 (VRd.ntl (rd_loadV1 rfl ta_5 rfl)) all0) ?_
                  refine dops_rdW [(low, [⟨36, 2, [.agg [.nils, .int .i64 0]], 0⟩, ⟨36, 2, [.agg [.vs 1 (List.map (PV.int .u8) ([] : List Int)), .int .i64 s5.2.1]], 0⟩, ⟨24, 3, List.map T_Frame.enc s5.2.2, 0⟩])] rfl rfl (all1 (VRd.ntl (rd_conv rfl us_5 ti_3 rfl)) all0) ?_
                  refine dops_rdW [(low, [⟨36, 2, [.agg [.nils, .int .i64 0]], 0⟩, ⟨36, 2, [.agg [.vs 1 (List.map (PV.int .u8) ([] : List Int)), .int .i64 s5.2.1]], 0⟩, ⟨24, 3, List.map T_Frame.enc s5.2.2, 0⟩])] rfl rfl (all1 (VRd.ntl (rd_mvV rfl)) all0) ?_
                  refine dops_rdW [(low, [⟨36, 2, [.agg [.nils, .int .i64 0]], 0⟩, ⟨36, 2, [.agg [.vs 1 (List.map (PV.int .u8) ([] : List Int)), .int .i64 s5.2.1]], 0⟩, ⟨24, 3, List.map T_Frame.enc s5.2.2, 0⟩])] rfl rfl (all1 (VRd.ntl (rd_mvI rfl)) all0) ?_
                  refine dops_rdW [(low, [⟨36, 2, [.agg [.nils, .int .i64 0]], 0⟩, ⟨36, 2, [.agg [.vs 1 (List.map (PV.int .u8) ([] : List Int)), .int .i64 s5.2.1]], 0⟩, ⟨24, 3, List.map T_Frame.enc s5.2.2, 0⟩])] rfl rfl (all1 (VRd.ntl (rd_add rfl rfl rfl)) all0) ?_
                  refine dops_rdW [(low, [⟨36, 2, [.agg [.nils, .int .i64 0]], 0⟩, ⟨36, 2, [.agg [.vs 1 (List.map (PV.int .u8) ([] : List Int)), .int .i64 s5.2.1]], 0⟩, ⟨24, 3, List.map T_Frame.enc s5.2.2, 0⟩])] rfl rfl (all1 (VRd.ntl (rd_slV rfl te_22 ts_5 ⟨_, rfl⟩ ⟨_, rfl⟩ h41)) all0) ?_
                  refine dops_rdW [(low, [⟨36, 2, [.agg [.nils, .int .i64 0]], 0⟩, ⟨36, 2, [.agg [.vs 1 (List.map (PV.int .u8) ([] : List Int)), .int .i64 s5.2.1]], 0⟩, ⟨24, 3, List.map T_Frame.enc s5.2.2, 0⟩])] rfl rfl (all1 (nt_of (vef_ap0F (f := (PV.int .u8)) (ys := x40) (.inl rfl) rfl (src_vs rfl) (Nat.succ_pos _) te_22 ts_5 tb_5 (by decide) tz_5 rfl (fun _ => .int _ _) h43)) all0) ?_
                  refine dops_rdW [(low, [⟨36, 2, [.agg [.nils, .int .i64 0]], 0⟩, ⟨36, 2, [.agg [.vs 1 (List.map (PV.int .u8) ([] : List Int)), .int .i64 s5.2.1]], 0⟩, ⟨24, 3, List.map T_Frame.enc s5.2.2, 0⟩])] rfl rfl (all1 (VRd.ntl (rd_build (vs := [(0, .int .i64 (IntKind.i64.wrap x36)), (1, .int .i64 (IntKind.i64.wrap x38)), (2, .vs 1 (List.map (PV.int .u8) x42))]) (ds := [.int .i64 (IntKind.i64.wrap x36), .int .i64 (IntKind.i64.wrap x38), .vs 1 (List.map (PV.int .u8) x42)]) tz_24 rfl rfl tp_24 ⟨rfl, rfl, rfl, rfl, rfl, rfl, trivial⟩ (nt_all2 rfl) rfl)) all0) ?_
                  refine dops_rdW [(low, [⟨36, 2, [.agg [.nils, .int .i64 0]], 0⟩, ⟨36, 2, [.agg [.vs 1 (List.map (PV.int .u8) ([] : List Int)), .int .i64 s5.2.1]], 0⟩, ⟨24, 3, List.map T_Frame.enc s5.2.2, 0⟩])] rfl rfl (all1 (nt_of (vef_litF (es := List.map T_Frame.enc [(T_Frame.mk (IntKind.i64.wrap x36) (IntKind.i64.wrap x38) x42)]) ⟨rfl, rfl, trivial⟩ rfl rfl (nt_all rfl) te_29 ts_24 tz_24 rfl rfl (Nat.succ_pos _) (by decide) (lt_map T_Frame.enc_lt))) all0) ?_
                  refine dops_ef (M := (low, [⟨36, 2, [.agg [.nils, .int .i64 0]], 0⟩, ⟨36, 2, [.agg [.vs 1 (List.map (PV.int .u8) ([] : List Int)), .int .i64 s5.2.1]], 0⟩, ⟨24, 3, List.map T_Frame.enc s5.2.2, 0⟩])) (M' := (low, [⟨36, 2, [.agg [.nils, .int .i64 0]], 0⟩, ⟨36, 2, [.agg [.vs 1 (List.map (PV.int .u8) ([] : List Int)), .int .i64 s5.2.1]], 0⟩, ⟨24, 3, List.map T_Frame.enc x44, 0 + 1⟩])) rfl rfl rfl (vef_apL (f := T_Frame.enc) (l := s5.2.2) (ys := [(T_Frame.mk (IntKind.i64.wrap x36) (IntKind.i64.wrap x38) x42)]) rfl rfl (getO_N rfl rfl) rfl (src_vs rfl) te_29 ts_24 tb_24 (by decide) tz_24 rfl h45 (setO_N rfl rfl)) ?_
                  refine dops_rdW [(low, [⟨36, 2, [.agg [.nils, .int .i64 0]], 0⟩, ⟨36, 2, [.agg [.vs 1 (List.map (PV.int .u8) ([] : List Int)), .int .i64 s5.2.1]], 0⟩, ⟨24, 3, List.map T_Frame.enc x44, 0 + 1⟩])] rfl rfl (all1 (VRd.ntl (rd_asL rfl)) all0) ?_
                  refine dops_nil ?_
                  refine vwp_region ?_
                  obtain ⟨x46, h47, hF⟩ := bnd hF
                  refine vops_rd (rd_mvV rfl) rfl ?_
                  refine vops_rd (rd_mvI rfl) rfl ?_
                  refine vops_rd (rd_add rfl rfl rfl) rfl ?_
                  refine vops_rd (rd_slV rfl te_22 ts_5 ⟨_, rfl⟩ rfl h47) rfl ?_
                  refine vops_rd (rd_asV rfl) rfl ?_
                  refine vops_nil ?_
                  obtain rfl := Option.some.inj hF
                  refine onlyE ?_
                  exact weak_pick rfl [(0, 0), (1, 0), (2, 0 + 1)] (by decide) ⟨rn_ptr 0 0 rfl rfl, rn_low rfl (.vs _ _), rn_ptr 1 1 rfl rfl, rn_sl 2 2 rfl rfl, trivial⟩ ⟨⟨_, rfl, rfl, .same _ _ _ _ (ltObj_es ⟨(lt_agg ⟨.nils, .int _ _, trivial⟩), trivial⟩)⟩, ⟨_, rfl, rfl, .same _ _ _ _ (ltObj_es ⟨(lt_agg ⟨.vs _ _, .int _ _, trivial⟩), trivial⟩)⟩, ⟨_, rfl, rfl, .same _ _ _ _ (ltObj_map T_Frame.enc_lt)⟩, trivial⟩
      · have hF := bifF c7 hF
        refine vwp_exit ?_
        obtain rfl := Option.some.inj hF
        refine onlyE ?_
        exact weak_sub ⟨rfl, rfl, rfl, rfl, trivial⟩
    · rintro _ _ _ _ ⟨rfl, hw⟩
      refine ⟨_, _, _, hw, ?_⟩
      refine vwp_seq ?_
      refine vwp_region ?_
      obtain ⟨x48, h49, hF⟩ := bnd hF
      refine vops_rd (rd_mvV rfl) rfl ?_
      refine vops_efE (vef_ap0F (f := (PV.int .u8)) (ys := o6.1) (.inl rfl) rfl (src_vs rfl) (Nat.succ_pos _) te_22 ts_5 tb_5 (by decide) tz_5 rfl (fun _ => .int _ _) h49) rfl ?_
      refine vops_rd (rd_fieldAddr rfl tf_36_0 ts_22 (by decide)) rfl ?_
      refine vops_efE (vef_store (p := .vs 1 (List.map (PV.int .u8) x48)) (e' := .agg [.vs 1 (List.map (PV.int .u8) x48), .int .i64 o6.2.1]) rfl (getO_N rfl rfl) rfl rfl ts_22 rfl (nt_ne rfl) rfl (Nat.le_of_ble_eq_true rfl) rfl (setO_N rfl rfl)) rfl ?_
      refine vops_nil ?_
      refine vwp_seq ?_
      refine vwp_region ?_
      refine vops_rd (rd_loadN (ds := [.vs 1 (List.map (PV.int .u8) x48), .int .i64 o6.2.1]) rfl (getO_N rfl rfl) rfl ta_36 ts_36 rfl rfl rfl) rfl ?_
      refine vops_rd (rd_mvL rfl) rfl ?_
      refine vops_efE (vef_store (p := .agg [.vs 1 (List.map (PV.int .u8) x48), .int .i64 o6.2.1]) (e' := .agg [.vs 1 (List.map (PV.int .u8) x48), .int .i64 o6.2.1]) rfl (getO_N rfl rfl) rfl rfl ts_36 rfl (nt_ne rfl) rfl (Nat.le_of_ble_eq_true rfl) rfl (setO_N rfl rfl)) rfl ?_
      refine vops_rd (rd_asL rfl) rfl ?_
      refine vops_nil ?_
      refine vwp_ret ?_
      obtain rfl := Option.some.inj hF
      refine fnR ?_
      refine Weak.trans (weak_freezeN (E' := [(4, .ptr (low.length + 0) 0 0 0), (5, .vs 3 (List.map T_Frame.enc o6.2.2))]) (loc1 := [⟨36, 2, [.agg [.vs 1 (List.map (PV.int .u8) x48), .int .i64 o6.2.1]], 0⟩, ⟨36, 2, [.agg [.vs 1 (List.map (PV.int .u8) x48), .int .i64 o6.2.1]], 0⟩, ⟨24, 3, [], 0 + 1⟩]) rfl 2 rfl (lt_map T_Frame.enc_lt) ⟨cv_same rfl, cv_sl rfl rfl rfl (full_take rfl), trivial⟩ ⟨.refl _, .refl _, .refl _, trivial⟩) ?_
      exact weak_pick rfl [(0, 0)] (by decide) ⟨rn_ptr 0 0 rfl rfl, rn_low rfl (.vs _ _), trivial⟩ ⟨⟨_, rfl, rfl, .same _ _ _ _ (ltObj_es ⟨(lt_agg ⟨.vs _ _, .int _ _, trivial⟩), trivial⟩)⟩, trivial⟩
  · rintro _ _ _ _ ⟨he, hw⟩
    refine ⟨_, _, _, hw, ?_⟩
    exact bodyQ_pure he [.agg [.vs 1 (List.map (PV.int .u8) r.1.Held), .int .i64 r.1.Dropped], .vs 3 (List.map T_Frame.enc r.2)] ⟨rd_loadN rfl (getO_N rfl rfl) rfl ta_36 ts_36 rfl rfl rfl, rfl, trivial⟩ ((lt_tup ⟨(lt_agg ⟨.vs _ _, .int _ _, trivial⟩), .vs _ _, trivial⟩)) ⟨rfl, rfl⟩

theorem F_law04_TelegramReads_ok {p0 : List Int} {p1 : T_Reader} {p2 : List Int} {p3 : Int} {r : Bool} (hF : F_law04_TelegramReads p0 p1 p2 p3 = some r) (low : List AObj) :
    VCalls Try.prog 4 [.vs 1 (List.map (PV.int .u8) p0), .agg [.vs 1 (List.map (PV.int .u8) p1.Held), .int .i64 p1.Dropped], .vs 1 (List.map (PV.int .u8) p2), .int .i64 p3] low fun x low' => x = .bool r ∧ low' = low := by
  refine vcalls_of_body (nt := 120) (rs := [.tmp 8]) Try.func4 rfl rfl (Nat.le_of_ble_eq_true rfl) rfl ?_
  refine vwp_monoW (Q' := FnE (fun E' lw lc => Weak E' lw lc [(8, .bool r)] low [])) ?_ ?_
  · unfold F_law04_TelegramReads at hF
    refine vwp_seq ?_
    refine vwp_region ?_
    refine vops_efE (vef_boxN rfl rfl (v := .agg [.vs 1 (List.map (PV.int .u8) p1.Held), .int .i64 p1.Dropped]) rfl rfl (Nat.succ_pos _) rfl rfl) rfl ?_
    refine vops_rd (rd_asB rfl) rfl ?_
    refine vops_nil ?_
    refine vwp_seq ?_
    refine vwp_seq ?_
    obtain ⟨o1, ho1, hF⟩ := bnd hF
    refine vwp_monoW (Q' := (fun o1 => OnlyE .normal (fun E' lw lc => Weak E' lw lc [(0, .vs 1 (List.map (PV.int .u8) p0)), (2, .vs 1 (List.map (PV.int .u8) p2)), (3, .int .i64 p3), (5, .ptr (low.length + 0) 0 0 0), (29, .bool o1)] low [⟨36, 2, [.agg [.vs 1 (List.map (PV.int .u8) p1.Held), .int .i64 p1.Dropped]], 0⟩])) o1) ?_ ?_
    · replace hF := ho1
      refine vwp_region ?_
      rcases Bool.eq_false_or_eq_true (decide (200 < ((p1.Held).length : Int))) with c2 | c2
      · have hF := bifT c2 hF
        refine vops_rd (rd_fieldAddr rfl tf_36_0 ts_22 (by decide)) rfl ?_
        refine vops_rd (rd_load1 rfl (getO_N rfl rfl) rfl ta_22 rfl) rfl ?_
        refine vops_rd (rd_to (rd_lenV rfl rfl te_22) (congrArg (fun n : Nat => PV.int .i64 (n : Int)) (List.length_map _))) rfl ?_
        refine vops_rd (rd_gtr rfl rfl) rfl ?_
        refine vops_rd (rd_mvB rfl) rfl ?_
        refine vops_skip rfl rfl (neT c2) rfl ?_
        refine vops_skip rfl rfl (neT c2) rfl ?_
        refine vops_skip rfl rfl (neT c2) rfl ?_
        refine vops_rd (rd_pickT (congrArg PV.bool c2) rfl) rfl ?_
        refine vops_rd (rd_mvB rfl) rfl ?_
        refine vops_skip rfl rfl (by decide) rfl ?_
        refine vops_skip rfl rfl (by decide) rfl ?_
        refine vops_skip rfl rfl (by decide) rfl ?_
        refine vops_rd (rd_pickT rfl rfl) rfl ?_
        refine vops_nil ?_
        obtain rfl := Option.some.inj hF
        refine onlyE ?_
        exact weak_sub ⟨rfl, rfl, rfl, rfl, rfl, trivial⟩
      · have hF := bifF c2 hF
        rcases Bool.eq_false_or_eq_true (decide (300 < ((p2).length : Int))) with c3 | c3
        · have hF := bifT c3 hF
          refine vops_rd (rd_fieldAddr rfl tf_36_0 ts_22 (by decide)) rfl ?_
          refine vops_rd (rd_load1 rfl (getO_N rfl rfl) rfl ta_22 rfl) rfl ?_
          refine vops_rd (rd_to (rd_lenV rfl rfl te_22) (congrArg (fun n : Nat => PV.int .i64 (n : Int)) (List.length_map _))) rfl ?_
          refine vops_rd (rd_gtr rfl rfl) rfl ?_
          refine vops_rd (rd_mvB rfl) rfl ?_
          refine vops_take rfl (congrArg PV.bool c2) ?_
          refine vops_rd (rd_mvV rfl) rfl ?_
          refine vops_take rfl (congrArg PV.bool c2) ?_
          refine vops_rd (rd_to (rd_lenV rfl rfl te_22) (congrArg (fun n : Nat => PV.int .i64 (n : Int)) (List.length_map _))) rfl ?_
          refine vops_take rfl (congrArg PV.bool c2) ?_
          refine vops_rd (rd_gtr rfl rfl) rfl ?_
          refine vops_rd (rd_pickF (congrArg PV.bool c2) rfl) rfl ?_
          refine vops_rd (rd_mvB rfl) rfl ?_
          refine vops_skip rfl rfl (neT c3) rfl ?_
          refine vops_skip rfl rfl (neT c3) rfl ?_
          refine vops_skip rfl rfl (neT c3) rfl ?_
          refine vops_rd (rd_pickT (congrArg PV.bool c3) rfl) rfl ?_
          refine vops_nil ?_
          obtain rfl := Option.some.inj hF
          refine onlyE ?_
          exact weak_sub ⟨rfl, rfl, rfl, rfl, rfl, trivial⟩
        · have hF := bifF c3 hF
          refine vops_rd (rd_fieldAddr rfl tf_36_0 ts_22 (by decide)) rfl ?_
          refine vops_rd (rd_load1 rfl (getO_N rfl rfl) rfl ta_22 rfl) rfl ?_
          refine vops_rd (rd_to (rd_lenV rfl rfl te_22) (congrArg (fun n : Nat => PV.int .i64 (n : Int)) (List.length_map _))) rfl ?_
          refine vops_rd (rd_gtr rfl rfl) rfl ?_
          refine vops_rd (rd_mvB rfl) rfl ?_
          refine vops_take rfl (congrArg PV.bool c2) ?_
          refine vops_rd (rd_mvV rfl) rfl ?_
          refine vops_take rfl (congrArg PV.bool c2) ?_
          refine vops_rd (rd_to (rd_lenV rfl rfl te_22) (congrArg (fun n : Nat => PV.int .i64 (n : Int)) (List.length_map _))) rfl ?_
          refine vops_take rfl (congrArg PV.bool c2) ?_
          refine vops_rd (rd_gtr rfl rfl) rfl ?_
          refine vops_rd (rd_pickF (congrArg PV.bool c2) rfl) rfl ?_
          refine vops_rd (rd_mvB rfl) rfl ?_
          refine vops_take rfl (congrArg PV.bool c3) ?_
          refine vops_rd (rd_fieldAddr rfl tf_36_1 ts_3 (by decide)) rfl ?_
          refine vops_take rfl (congrArg PV.bool c3) ?_
          refine vops_rd (rd_load1 rfl (getO_N rfl rfl) rfl ta_3 rfl) rfl ?_
          refine vops_take rfl (congrArg PV.bool c3) ?_
          refine vops_rd (rd_gtr rfl rfl) rfl ?_
          refine vops_rd (rd_pickF (congrArg PV.bool c3) rfl) rfl ?_
          refine vops_nil ?_
          obtain rfl := Option.some.inj hF
          refine onlyE ?_
          exact weak_sub ⟨rfl, rfl, rfl, rfl, rfl, trivial⟩
    · rintro _ _ _ _ ⟨rfl, hw⟩
      refine ⟨_, _, _, hw, ?_⟩
      refine vwp_cond rfl (fun c4 => ?_) (fun c4 => ?_)
      · have hF := bifT c4 hF
        refine vwp_seq ?_
        refine vwp_region ?_
        obtain ⟨x5, h6, hF⟩ := bnd hF
        refine vops_efE (vef_callP rfl Try.call9 (F_law04_awake_ok h6 _)) rfl ?_
        refine vops_rd (rd_asB rfl) rfl ?_
        refine vops_nil ?_
        refine vwp_ret ?_
        obtain rfl := Option.some.inj hF
        refine fnR ?_
        exact weak_pick rfl [] (by decide) ⟨rn_low rfl (.bool _), trivial⟩ trivial
      · have hF := bifF c4 hF
        refine vwp_skip ?_
        refine vwp_seq ?_
        refine vwp_seq ?_
        refine vwp_region ?_
        obtain ⟨x7, h8, hF⟩ := bnd hF
        obtain ⟨x9, h10, hF⟩ := bnd hF
        refine vops_rd (rd_mvV rfl) rfl ?_
        refine vops_efE (vef_callN (r := .ptr (low.length + 1) 0 0 0) (os := [⟨48, 2, [.agg [.vs 1 (List.map (PV.int .u8) x7.l), .int .i64 x7.at_]], 0⟩]) rfl Try.call10 (F_draw_New_ok h8 _ (len_app rfl rfl))) rfl ?_
        refine vops_efE (vef_callMN (k := 1) (loc1 := [⟨36, 2, [.agg [.vs 1 (List.map (PV.int .u8) p1.Held), .int .i64 p1.Dropped]], 0⟩, ⟨48, 2, [.agg [.vs 1 (List.map (PV.int .u8) x9.1.l), .int .i64 x9.1.at_]], 0⟩]) rfl rfl Try.call16 (F_draw_Codes_Bytes_ok h10 (get_N rfl rfl)) rfl) rfl ?_
        refine vops_rd (rd_mvV rfl) rfl ?_
        refine vops_efE (vef_litF (es := List.map (encS 1 (PV.int .u8)) [x9.2, p2]) ⟨rfl, rfl, rfl, rfl, trivial⟩ rfl rfl (nt_all rfl) te_38 ts_22 tz_22 rfl rfl (Nat.succ_pos _) (by decide) (lt_map (fun _ => .vs _ _))) rfl ?_
        refine vops_rd (rd_to (rd_lenV rfl rfl te_38) (congrArg (fun n : Nat => PV.int .i64 (n : Int)) (List.length_map _))) rfl ?_
        refine vops_rd (rd_mvI rfl) rfl ?_
        refine vops_nil ?_
        refine vwp_block ?_
        obtain ⟨o12, ho12, hF⟩ := bnd hF
        refine vwp_monoW (vwp_loopC (F_law04_TelegramReads_L1 p1 p2 p3 x9) (fun s11 E' lw lc => Weak E' lw lc [(3, .int .i64 p3), (5, .ptr (low.length + 0) 0 0 0), (35, .vs 1 (List.map (encS 1 (PV.int .u8)) [x9.2, p2])), (36, .int .i64 (([x9.2, p2]).length : Int)), (37, .int .i64 s11)] low [⟨36, 2, [.agg [.vs 1 (List.map (PV.int .u8) p1.Held), .int .i64 p1.Dropped]], 0⟩]) (Sum.elim (fun j13 => OnlyE .ret (fun E' lw lc => Weak E' lw lc [(8, .bool false)] low [])) (fun j14 => OnlyE (.exit 0) (fun E' lw lc => Weak E' lw lc [] low []))) ho12 ?_ (by rintro (_|_) _ _ _ ⟨h, _⟩ <;> cases h) ?_) ?_
        · exact weak_pick rfl [(0, 0)] (by decide) ⟨rn_low rfl (.int _ _), rn_ptr 0 0 rfl rfl, rn_low rfl (.vs _ _), rn_low rfl (.int _ _), rn_low rfl (.int _ _), trivial⟩ ⟨⟨_, rfl, rfl, .same _ _ _ _ (ltObj_es ⟨(lt_agg ⟨.vs _ _, .int _ _, trivial⟩), trivial⟩)⟩, trivial⟩
        · rintro s11 os11 _ _ _ hF hw
          unfold F_law04_TelegramReads_L1 at hF
          refine vwp_weak hw ?_
          refine vwp_seq ?_
          refine vwp_region ?_
          refine vops_rd (rd_lss rfl rfl) rfl ?_
          refine vops_nil ?_
          refine vwp_seq ?_
          refine vwp_cond rfl (fun c15 => ?_) (fun c15 => ?_)
          · have hF := bifT c15 hF
            refine vwp_skip ?_
            refine vwp_seq ?_
            refine vwp_block ?_
            refine vwp_seq ?_
            refine vwp_region ?_
            obtain ⟨x16, h17, hF⟩ := bnd hF
            refine vops_rd (rd_to (rd_ixV rfl rfl h17 te_38 ts_22) (v' := .vptr [.vs 1 (List.map (PV.int .u8) x16)] 0) rfl) rfl ?_
            refine vops_rd (rd_loadV1 rfl ta_22 rfl) rfl ?_
            refine vops_rd (rd_asV rfl) rfl ?_
            refine vops_nil ?_
            refine vwp_seq ?_
            refine vwp_region ?_
            obtain ⟨x18, h19, hF⟩ := bnd hF
            refine vops_rd (rd_mvI rfl) rfl ?_
            refine vops_rd (rd_mvV rfl) rfl ?_
            refine vops_rd (rd_to (rd_lenV rfl rfl te_22) (congrArg (fun n : Nat => PV.int .i64 (n : Int)) (List.length_map _))) rfl ?_
            refine vops_rd (rd_add rfl rfl rfl) rfl ?_
            refine vops_efE (vef_callP rfl Try.call17 (F_draw_Mod_ok h19 _)) rfl ?_
            refine vops_rd (rd_asI rfl) rfl ?_
            refine vops_nil ?_
            refine vwp_seq ?_
            obtain ⟨x20, h21, hF⟩ := bnd hF
            obtain ⟨x22, h23, hF⟩ := bnd hF
            refine vwp_drawn [[], [], [], [1, 2], [0, 1, 2, 3], [0, 1, 2, 3, 4], [0, 1, 2, 3, 4, 5], [0, 1, 2, 3, 4, 5], [], [0, 1, 2, 3, 4, 5, 6, 8], [0, 1, 2, 3, 4, 5, 6, 7, 8, 9]] [false, false, false, false, false, false, false, false, true, true, false] [(low, [⟨36, 2, [.agg [.vs 1 (List.map (PV.int .u8) p1.Held), .int .i64 p1.Dropped]], 0⟩]), (low, [⟨36, 2, [.agg [.vs 1 (List.map (PV.int .u8) p1.Held), .int .i64 p1.Dropped]], 0⟩, ⟨36, 2, [.agg [.nils, .int .i64 0]], 0⟩]), (low, [⟨36, 2, [.agg [.vs 1 (List.map (PV.int .u8) p1.Held), .int .i64 p1.Dropped]], 0⟩, ⟨36, 2, [.agg [.vs 1 (List.map (PV.int .u8) x22.1.Held), .int .i64 x22.1.Dropped]], 0⟩])] mixed (by kernel_rfl) rfl (lenAll (all1 rfl (all1 rfl (all1 rfl all0)))) rfl (low, [⟨36, 2, [.agg [.vs 1 (List.map (PV.int .u8) p1.Held), .int .i64 p1.Dropped]], 0⟩, ⟨36, 2, [.agg [.vs 1 (List.map (PV.int .u8) x22.1.Held), .int .i64 x22.1.Dropped]], 0⟩]) rfl rfl ?_
            refine dops_rdW [(low, [⟨36, 2, [.agg [.vs 1 (List.map (PV.int .u8) p1.Held), .int .i64 p1.Dropped]], 0⟩]), (low, [⟨36, 2, [.agg [.vs 1 (List.map (PV.int .u8) p1.Held), .int .i64 p1.Dropped]], 0⟩, ⟨36, 2, [.agg [.nils, .int .i64 0]], 0⟩])] rfl rfl (all1 (VRd.ntl (rd_loadN (ds := [.vs 1 (List.map (PV.int .u8) p1.Held), .int .i64 p1.Dropped]) rfl (getO_N rfl rfl) rfl ta_36 ts_36 rfl rfl rfl)) (all1 (VRd.ntl (rd_loadN (ds := [.vs 1 (List.map (PV.int .u8) p1.Held), .int .i64 p1.Dropped]) rfl (getO_N rfl rfl) rfl ta_36 ts_36 rfl rfl rfl)) all0)) ?_
            refine dops_rdW [(low, [⟨36, 2, [.agg [.vs 1 (List.map (PV.int .u8) p1.Held), .int .i64 p1.Dropped]], 0⟩]), (low, [⟨36, 2, [.agg [.vs 1 (List.map (PV.int .u8) p1.Held), .int .i64 p1.Dropped]], 0⟩, ⟨36, 2, [.agg [.nils, .int .i64 0]], 0⟩])] rfl rfl (all1 (VRd.ntl (rd_mvV rfl)) (all1 (VRd.ntl (rd_mvV rfl)) all0)) ?_
            refine dops_rdW [(low, [⟨36, 2, [.agg [.vs 1 (List.map (PV.int .u8) p1.Held), .int .i64 p1.Dropped]], 0⟩]), (low, [⟨36, 2, [.agg [.vs 1 (List.map (PV.int .u8) p1.Held), .int .i64 p1.Dropped]], 0⟩, ⟨36, 2, [.agg [.nils, .int .i64 0]], 0⟩])] rfl rfl (all1 (VRd.ntl (rd_mvI rfl)) (all1 (VRd.ntl (rd_mvI rfl)) all0)) ?_
            refine dops_rdW [(low, [⟨36, 2, [.agg [.vs 1 (List.map (PV.int .u8) p1.Held), .int .i64 p1.Dropped]], 0⟩]), (low, [⟨36, 2, [.agg [.vs 1 (List.map (PV.int .u8) p1.Held), .int .i64 p1.Dropped]], 0⟩, ⟨36, 2, [.agg [.nils, .int .i64 0]], 0⟩])] rfl rfl (all1 (VRd.ntl (rd_slV rfl te_22 ts_5 rfl ⟨_, rfl⟩ h21)) (all1 (VRd.ntl (rd_slV rfl te_22 ts_5 rfl ⟨_, rfl⟩ h21)) all0)) ?_
            refine dops_rdW [(low, [⟨36, 2, [.agg [.vs 1 (List.map (PV.int .u8) p1.Held), .int .i64 p1.Dropped]], 0⟩]), (low, [⟨36, 2, [.agg [.vs 1 (List.map (PV.int .u8) p1.Held), .int .i64 p1.Dropped]], 0⟩, ⟨36, 2, [.agg [.nils, .int .i64 0]], 0⟩])] rfl rfl (all1 (nt_of (vef_callP rfl Try.call18 (F_telegram_Feed_ok h23 _))) (all1 (nt_of (vef_callP rfl Try.call18 (F_telegram_Feed_ok h23 _))) all0)) ?_
            refine dops_rdW [(low, [⟨36, 2, [.agg [.vs 1 (List.map (PV.int .u8) p1.Held), .int .i64 p1.Dropped]], 0⟩]), (low, [⟨36, 2, [.agg [.vs 1 (List.map (PV.int .u8) p1.Held), .int .i64 p1.Dropped]], 0⟩, ⟨36, 2, [.agg [.nils, .int .i64 0]], 0⟩])] rfl rfl (all1 (VRd.ntl (rd_mvT rfl)) (all1 (VRd.ntl (rd_mvT rfl)) all0)) ?_
            refine dops_rdW [(low, [⟨36, 2, [.agg [.vs 1 (List.map (PV.int .u8) p1.Held), .int .i64 p1.Dropped]], 0⟩]), (low, [⟨36, 2, [.agg [.vs 1 (List.map (PV.int .u8) p1.Held), .int .i64 p1.Dropped]], 0⟩, ⟨36, 2, [.agg [.nils, .int .i64 0]], 0⟩])] rfl rfl (all1 (VRd.ntl (rd_extract rfl rfl)) (all1 (VRd.ntl (rd_extract rfl rfl)) all0)) ?_
            refine dops_rdW [(low, [⟨36, 2, [.agg [.vs 1 (List.map (PV.int .u8) p1.Held), .int .i64 p1.Dropped]], 0⟩]), (low, [⟨36, 2, [.agg [.vs 1 (List.map (PV.int .u8) p1.Held), .int .i64 p1.Dropped]], 0⟩, ⟨36, 2, [.agg [.nils, .int .i64 0]], 0⟩]), (low, [⟨36, 2, [.agg [.vs 1 (List.map (PV.int .u8) p1.Held), .int .i64 p1.Dropped]], 0⟩, ⟨36, 2, [.agg [.vs 1 (List.map (PV.int .u8) x22.1.Held), .int .i64 x22.1.Dropped]], 0⟩])] rfl rfl (all1 (VRd.ntl (rd_extract rfl rfl)) (all1 (VRd.ntl (rd_extract rfl rfl)) (all1 (VRd.ntl (rd_extract rfl rfl)) all0))) ?_
            refine dops_ef (M := (low, [⟨36, 2, [.agg [.vs 1 (List.map (PV.int .u8) p1.Held), .int .i64 p1.Dropped]], 0⟩])) (M' := (low, [⟨36, 2, [.agg [.vs 1 (List.map (PV.int .u8) p1.Held), .int .i64 p1.Dropped]], 0⟩, ⟨36, 2, [.agg [.nils, .int .i64 0]], 0⟩])) rfl rfl rfl (vef_allocN rfl rfl tz_36 rfl rfl (Nat.succ_pos _) rfl) ?_
            refine dops_ef (M := (low, [⟨36, 2, [.agg [.vs 1 (List.map (PV.int .u8) p1.Held), .int .i64 p1.Dropped]], 0⟩, ⟨36, 2, [.agg [.nils, .int .i64 0]], 0⟩])) (M' := (low, [⟨36, 2, [.agg [.vs 1 (List.map (PV.int .u8) p1.Held), .int .i64 p1.Dropped]], 0⟩, ⟨36, 2, [.agg [.vs 1 (List.map (PV.int .u8) x22.1.Held), .int .i64 x22.1.Dropped]], 0⟩])) rfl rfl rfl (vef_store (p := .agg [.vs 1 (List.map (PV.int .u8) x22.1.Held), .int .i64 x22.1.Dropped]) (e' := .agg [.vs 1 (List.map (PV.int .u8) x22.1.Held), .int .i64 x22.1.Dropped]) rfl (getO_N rfl rfl) rfl rfl ts_36 rfl (nt_ne rfl) rfl (Nat.le_of_ble_eq_true rfl) rfl (setO_N rfl rfl)) ?_
            refine dops_rdW [(low, [⟨36, 2, [.agg [.vs 1 (List.map (PV.int .u8) p1.Held), .int .i64 p1.Dropped]], 0⟩, ⟨36, 2, [.agg [.vs 1 (List.map (PV.int .u8) x22.1.Held), .int .i64 x22.1.Dropped]], 0⟩])] rfl rfl (all1 (VRd.ntl (rd_asV rfl)) all0) ?_
            refine dops_nil ?_
            refine vwp_seq ?_
            obtain ⟨x24, h25, hF⟩ := bnd hF
            obtain ⟨x26, h27, hF⟩ := bnd hF
            refine vwp_drawn [[], [], [], [1, 2], [0, 1, 2, 3], [0, 1, 2, 3, 4], [0, 1, 2, 3, 4, 5], [0, 1, 2, 3, 4, 5], [], [0, 1, 2, 3, 4, 5, 6, 8], [0, 1, 2, 3, 4, 5, 6, 7, 8, 9]] [false, false, false, false, false, false, false, false, true, true, false] [(low, [⟨36, 2, [.agg [.vs 1 (List.map (PV.int .u8) p1.Held), .int .i64 p1.Dropped]], 0⟩, ⟨36, 2, [.agg [.vs 1 (List.map (PV.int .u8) x22.1.Held), .int .i64 x22.1.Dropped]], 0⟩]), (low, [⟨36, 2, [.agg [.vs 1 (List.map (PV.int .u8) p1.Held), .int .i64 p1.Dropped]], 0⟩, ⟨36, 2, [.agg [.vs 1 (List.map (PV.int .u8) x22.1.Held), .int .i64 x22.1.Dropped]], 0⟩, ⟨36, 2, [.agg [.nils, .int .i64 0]], 0⟩]), (low, [⟨36, 2, [.agg [.vs 1 (List.map (PV.int .u8) p1.Held), .int .i64 p1.Dropped]], 0⟩, ⟨36, 2, [.agg [.vs 1 (List.map (PV.int .u8) x22.1.Held), .int .i64 x22.1.Dropped]], 0⟩, ⟨36, 2, [.agg [.vs 1 (List.map (PV.int .u8) x26.1.Held), .int .i64 x26.1.Dropped]], 0⟩])] mixed (by kernel_rfl) rfl (lenAll (all1 rfl (all1 rfl (all1 rfl all0)))) rfl (low, [⟨36, 2, [.agg [.vs 1 (List.map (PV.int .u8) p1.Held), .int .i64 p1.Dropped]], 0⟩, ⟨36, 2, [.agg [.vs 1 (List.map (PV.int .u8) x22.1.Held), .int .i64 x22.1.Dropped]], 0⟩, ⟨36, 2, [.agg [.vs 1 (List.map (PV.int .u8) x26.1.Held), .int .i64 x26.1.Dropped]], 0⟩]) rfl rfl ?_
            refine dops_rdW [(low, [⟨36, 2, [.agg [.vs 1 (List.map (PV.int .u8) p1.Held), .int .i64 p1.Dropped]], 0⟩, ⟨36, 2, [.agg [.vs 1 (List.map (PV.int .u8) x22.1.Held), .int .i64 x22.1.Dropped]], 0⟩]), (low, [⟨36, 2, [.agg [.vs 1 (List.map (PV.int .u8) p1.Held), .int .i64 p1.Dropped]], 0⟩, ⟨36, 2, [.agg [.vs 1 (List.map (PV.int .u8) x22.1.Held), .int .i64 x22.1.Dropped]], 0⟩, ⟨36, 2, [.agg [.nils, .int .i64 0]], 0⟩])] rfl rfl (all1 (VRd.ntl (rd_loadN (ds := [.vs 1 (List.map (PV.int .u8) p1.Held), .int .i64 p1.Dropped]) rfl (getO_N rfl rfl) rfl ta_36 ts_36 rfl rfl rfl)) (all1 (VRd.ntl (rd_loadN (ds := [.vs 1 (List.map (PV.int .u8) p1.Held), .int .i64 p1.Dropped]) rfl (getO_N rfl rfl) rfl ta_36 ts_36 rfl rfl rfl)) all0)) ?_
            refine dops_rdW [(low, [⟨36, 2, [.agg [.vs 1 (List.map (PV.int .u8) p1.Held), .int .i64 p1.Dropped]], 0⟩, ⟨36, 2, [.agg [.vs 1 (List.map (PV.int .u8) x22.1.Held), .int .i64 x22.1.Dropped]], 0⟩]), (low, [⟨36, 2, [.agg [.vs 1 (List.map (PV.int .u8) p1.Held), .int .i64 p1.Dropped]], 0⟩, ⟨36, 2, [.agg [.vs 1 (List.map (PV.int .u8) x22.1.Held), .int .i64 x22.1.Dropped]], 0⟩, ⟨36, 2, [.agg [.nils, .int .i64 0]], 0⟩])] rfl rfl (all1 (VRd.ntl (rd_mvV rfl)) (all1 (VRd.ntl (rd_mvV rfl)) all0)) ?_
            refine dops_rdW [(low, [⟨36, 2, [.agg [.vs 1 (List.map (PV.int .u8) p1.Held), .int .i64 p1.Dropped]], 0⟩, ⟨36, 2, [.agg [.vs 1 (List.map (PV.int .u8) x22.1.Held), .int .i64 x22.1.Dropped]], 0⟩]), (low, [⟨36, 2, [.agg [.vs 1 (List.map (PV.int .u8) p1.Held), .int .i64 p1.Dropped]], 0⟩, ⟨36, 2, [.agg [.vs 1 (List.map (PV.int .u8) x22.1.Held), .int .i64 x22.1.Dropped]], 0⟩, ⟨36, 2, [.agg [.nils, .int .i64 0]], 0⟩])] rfl rfl (all1 (VRd.ntl (rd_mvI rfl)) (all1 (VRd.ntl (rd_mvI rfl)) all0)) ?_
            refine dops_rdW [(low, [⟨36, 2, [.agg [.vs 1 (List.map (PV.int .u8) p1.Held), .int .i64 p1.Dropped]], 0⟩, ⟨36, 2, [.agg [.vs 1 (List.map (PV.int .u8) x22.1.Held), .int .i64 x22.1.Dropped]], 0⟩]), (low, [⟨36, 2, [.agg [.vs 1 (List.map (PV.int .u8) p1.Held), .int .i64 p1.Dropped]], 0⟩, ⟨36, 2, [.agg [.vs 1 (List.map (PV.int .u8) x22.1.Held), .int .i64 x22.1.Dropped]], 0⟩, ⟨36, 2, [.agg [.nils, .int .i64 0]], 0⟩])] rfl rfl (all1 (VRd.ntl (rd_slV rfl te_22 ts_5 rfl ⟨_, rfl⟩ h25)) (all1 (VRd.ntl (rd_slV rfl te_22 ts_5 rfl ⟨_, rfl⟩ h25)) all0)) ?_
            refine dops_rdW [(low, [⟨36, 2, [.agg [.vs 1 (List.map (PV.int .u8) p1.Held), .int .i64 p1.Dropped]], 0⟩, ⟨36, 2, [.agg [.vs 1 (List.map (PV.int .u8) x22.1.Held), .int .i64 x22.1.Dropped]], 0⟩]), (low, [⟨36, 2, [.agg [.vs 1 (List.map (PV.int .u8) p1.Held), .int .i64 p1.Dropped]], 0⟩, ⟨36, 2, [.agg [.vs 1 (List.map (PV.int .u8) x22.1.Held), .int .i64 x22.1.Dropped]], 0⟩, ⟨36, 2, [.agg [.nils, .int .i64 0]], 0⟩])] rfl rfl (all1 (nt_of (vef_callP rfl Try.call19 (F_ref04_Feed_ok h27 _))) (all1 (nt_of (vef_callP rfl Try.call19 (F_ref04_Feed_ok h27 _))) all0)) ?_
            refine dops_rdW [(low, [⟨36, 2, [.agg [.vs 1 (List.map (PV.int .u8) p1.Held), .int .i64 p1.Dropped]], 0⟩, ⟨36, 2, [.agg [.vs 1 (List.map (PV.int .u8) x22.1.Held), .int .i64 x22.1.Dropped]], 0⟩]), (low, [⟨36, 2, [.agg [.vs 1 (List.map (PV.int .u8) p1.Held), .int .i64 p1.Dropped]], 0⟩, ⟨36, 2, [.agg [.vs 1 (List.map (PV.int .u8) x22.1.Held), .int .i64 x22.1.Dropped]], 0⟩, ⟨36, 2, [.agg [.nils, .int .i64 0]], 0⟩])] rfl rfl (all1 (VRd.ntl (rd_mvT rfl)) (all1 (VRd.ntl (rd_mvT rfl)) all0)) ?_
            refine dops_rdW [(low, [⟨36, 2, [.agg [.vs 1 (List.map (PV.int .u8) p1.Held), .int .i64 p1.Dropped]], 0⟩, ⟨36, 2, [.agg [.vs 1 (List.map (PV.int .u8) x22.1.Held), .int .i64 x22.1.Dropped]], 0⟩]), (low, [⟨36, 2, [.agg [.vs 1 (List.map (PV.int .u8) p1.Held), .int .i64 p1.Dropped]], 0⟩, ⟨36, 2, [.agg [.vs 1 (List.map (PV.int .u8) x22.1.Held), .int .i64 x22.1.Dropped]], 0⟩, ⟨36, 2, [.agg [.nils, .int .i64 0]], 0⟩])] rfl rfl (all1 (VRd.ntl (rd_extract rfl rfl)) (all1 (VRd.ntl (rd_extract rfl rfl)) all0)) ?_
            refine dops_rdW [(low, [⟨36, 2, [.agg [.vs 1 (List.map (PV.int .u8) p1.Held), .int .i64 p1.Dropped]], 0⟩, ⟨36, 2, [.agg [.vs 1 (List.map (PV.int .u8) x22.1.Held), .int .i64 x22.1.Dropped]], 0⟩]), (low, [⟨36, 2, [.agg [.vs 1 (List.map (PV.int .u8) p1.Held), .int .i64 p1.Dropped]], 0⟩, ⟨36, 2, [.agg [.vs 1 (List.map (PV.int .u8) x22.1.Held), .int .i64 x22.1.Dropped]], 0⟩, ⟨36, 2, [.agg [.nils, .int .i64 0]], 0⟩]), (low, [⟨36, 2, [.agg [.vs 1 (List.map (PV.int .u8) p1.Held), .int .i64 p1.Dropped]], 0⟩, ⟨36, 2, [.agg [.vs 1 (List.map (PV.int .u8) x22.1.Held), .int .i64 x22.1.Dropped]], 0⟩, ⟨36, 2, [.agg [.vs 1 (List.map (PV.int .u8) x26.1.Held), .int .i64 x26.1.Dropped]], 0⟩])] rfl rfl (all1 (VRd.ntl (rd_extract rfl rfl)) (all1 (VRd.ntl (rd_extract rfl rfl)) (all1 (VRd.ntl (rd_extract rfl rfl)) all0))) ?_
            refine dops_ef (M := (low, [⟨36, 2, [.agg [.vs 1 (List.map (PV.int .u8) p1.Held), .int .i64 p1.Dropped]], 0⟩, ⟨36, 2, [.agg [.vs 1 (List.map (PV.int .u8) x22.1.Held), .int .i64 x22.1.Dropped]], 0⟩])) (M' := (low, [⟨36, 2, [.agg [.vs 1 (List.map (PV.int .u8) p1.Held), .int .i64 p1.Dropped]], 0⟩, ⟨36, 2, [.agg [.vs 1 (List.map (PV.int .u8) x22.1.Held), .int .i64 x22.1.Dropped]], 0⟩, ⟨36, 2, [.agg [.nils, .int .i64 0]], 0⟩])) rfl rfl rfl (vef_allocN rfl rfl tz_36 rfl rfl (Nat.succ_pos _) rfl) ?_
            refine dops_ef (M := (low, [⟨36, 2, [.agg [.vs 1 (List.map (PV.int .u8) p1.Held), .int .i64 p1.Dropped]], 0⟩, ⟨36, 2, [.agg [.vs 1 (List.map (PV.int .u8) x22.1.Held), .int .i64 x22.1.Dropped]], 0⟩, ⟨36, 2, [.agg [.nils, .int .i64 0]], 0⟩])) (M' := (low, [⟨36, 2, [.agg [.vs 1 (List.map (PV.int .u8) p1.Held), .int .i64 p1.Dropped]], 0⟩, ⟨36, 2, [.agg [.vs 1 (List.map (PV.int .u8) x22.1.Held), .int .i64 x22.1.Dropped]], 0⟩, ⟨36, 2, [.agg [.vs 1 (List.map (PV.int .u8) x26.1.Held), .int .i64 x26.1.Dropped]], 0⟩])) rfl rfl rfl (vef_store (p := .agg [.vs 1 (List.map (PV.int .u8) x26.1.Held), .int .i64 x26.1.Dropped]) (e' := .agg [.vs 1 (List.map (PV.int .u8) x26.1.Held), .int .i64 x26.1.Dropped]) rfl (getO_N rfl rfl) rfl rfl ts_36 rfl (nt_ne rfl) rfl (Nat.le_of_ble_eq_true rfl) rfl (setO_N rfl rfl)) ?_
            refine dops_rdW [(low, [⟨36, 2, [.agg [.vs 1 (List.map (PV.int .u8) p1.Held), .int .i64 p1.Dropped]], 0⟩, ⟨36, 2, [.agg [.vs 1 (List.map (PV.int .u8) x22.1.Held), .int .i64 x22.1.Dropped]], 0⟩, ⟨36, 2, [.agg [.vs 1 (List.map (PV.int .u8) x26.1.Held), .int .i64 x26.1.Dropped]], 0⟩])] rfl rfl (all1 (VRd.ntl (rd_asV rfl)) all0) ?_
            refine dops_nil ?_
            refine vwp_seq ?_
            refine vwp_seq ?_
            obtain ⟨o28, ho28, hF⟩ := bnd hF
            refine vwp_monoW (Q' := (fun o28 => OnlyE .normal (fun E' lw lc => Weak E' lw lc [(3, .int .i64 p3), (5, .ptr (low.length + 0) 0 0 0), (10, .vs 1 (List.map (PV.int .u8) x16)), (11, .int .i64 x18), (12, .ptr (low.length + 1) 0 0 0), (14, .ptr (low.length + 2) 0 0 0), (35, .vs 1 (List.map (encS 1 (PV.int .u8)) [x9.2, p2])), (36, .int .i64 (([x9.2, p2]).length : Int)), (37, .int .i64 s11), (81, .bool o28)] low [⟨36, 2, [.agg [.vs 1 (List.map (PV.int .u8) p1.Held), .int .i64 p1.Dropped]], 0⟩, ⟨36, 2, [.agg [.vs 1 (List.map (PV.int .u8) x22.1.Held), .int .i64 x22.1.Dropped]], 0⟩, ⟨36, 2, [.agg [.vs 1 (List.map (PV.int .u8) x26.1.Held), .int .i64 x26.1.Dropped]], 0⟩])) o28) ?_ ?_
            · replace hF := ho28
              refine vwp_region ?_
              rcases Bool.eq_false_or_eq_true (!((strOfNums x22.1.Held).toList == (strOfNums x26.1.Held).toList)) with c29 | c29
              · have hF := bifT c29 hF
                refine vops_rd (rd_fieldAddr rfl tf_36_0 ts_22 (by decide)) rfl ?_
                refine vops_rd (rd_load1 rfl (getO_N rfl rfl) rfl ta_22 rfl) rfl ?_
                refine vops_rd (rd_str (xs := x22.1.Held) (src_vs rfl) te_22 ti_5 tst_9) rfl ?_
                refine vops_rd (rd_fieldAddr rfl tf_36_0 ts_22 (by decide)) rfl ?_
                refine vops_rd (rd_load1 rfl (getO_N rfl rfl) rfl ta_22 rfl) rfl ?_
                refine vops_rd (rd_str (xs := x26.1.Held) (src_vs rfl) te_22 ti_5 tst_9) rfl ?_
                refine vops_rd (rd_neqS rfl rfl) rfl ?_
                refine vops_rd (rd_mvB rfl) rfl ?_
                refine vops_skip rfl rfl (neT c29) rfl ?_
                refine vops_skip rfl rfl (neT c29) rfl ?_
                refine vops_skip rfl rfl (neT c29) rfl ?_
                refine vops_skip rfl rfl (neT c29) rfl ?_
                refine vops_skip rfl rfl (neT c29) rfl ?_
                refine vops_rd (rd_pickT (congrArg PV.bool c29) rfl) rfl ?_
                refine vops_rd (rd_mvB rfl) rfl ?_
                refine vops_skip rfl rfl (by decide) rfl ?_
                refine vops_skip rfl rfl (by decide) rfl ?_
                refine vops_skip rfl rfl (by decide) rfl ?_
                refine vops_skip rfl rfl (by decide) rfl ?_
                refine vops_rd (rd_pickT rfl rfl) rfl ?_
                refine vops_nil ?_
                obtain rfl := Option.some.inj hF
                refine onlyE ?_
                exact weak_sub ⟨rfl, rfl, rfl, rfl, rfl, rfl, rfl, rfl, rfl, rfl, trivial⟩
              · have hF := bifF c29 hF
                rcases Bool.eq_false_or_eq_true (decide (x22.1.Dropped ≠ x26.1.Dropped)) with c30 | c30
                · have hF := bifT c30 hF
                  refine vops_rd (rd_fieldAddr rfl tf_36_0 ts_22 (by decide)) rfl ?_
                  refine vops_rd (rd_load1 rfl (getO_N rfl rfl) rfl ta_22 rfl) rfl ?_
                  refine vops_rd (rd_str (xs := x22.1.Held) (src_vs rfl) te_22 ti_5 tst_9) rfl ?_
                  refine vops_rd (rd_fieldAddr rfl tf_36_0 ts_22 (by decide)) rfl ?_
                  refine vops_rd (rd_load1 rfl (getO_N rfl rfl) rfl ta_22 rfl) rfl ?_
                  refine vops_rd (rd_str (xs := x26.1.Held) (src_vs rfl) te_22 ti_5 tst_9) rfl ?_
                  refine vops_rd (rd_neqS rfl rfl) rfl ?_
                  refine vops_rd (rd_mvB rfl) rfl ?_
                  refine vops_take rfl (congrArg PV.bool c29) ?_
                  refine vops_rd (rd_fieldAddr rfl tf_36_1 ts_3 (by decide)) rfl ?_
                  refine vops_take rfl (congrArg PV.bool c29) ?_
                  refine vops_rd (rd_load1 rfl (getO_N rfl rfl) rfl ta_3 rfl) rfl ?_
                  refine vops_take rfl (congrArg PV.bool c29) ?_
                  refine vops_rd (rd_fieldAddr rfl tf_36_1 ts_3 (by decide)) rfl ?_
                  refine vops_take rfl (congrArg PV.bool c29) ?_
                  refine vops_rd (rd_load1 rfl (getO_N rfl rfl) rfl ta_3 rfl) rfl ?_
                  refine vops_take rfl (congrArg PV.bool c29) ?_
                  refine vops_rd (rd_neq rfl rfl) rfl ?_
                  refine vops_rd (rd_pickF (congrArg PV.bool c29) rfl) rfl ?_
                  refine vops_rd (rd_mvB rfl) rfl ?_
                  refine vops_skip rfl rfl (neT c30) rfl ?_
                  refine vops_skip rfl rfl (neT c30) rfl ?_
                  refine vops_skip rfl rfl (neT c30) rfl ?_
                  refine vops_skip rfl rfl (neT c30) rfl ?_
                  refine vops_rd (rd_pickT (congrArg PV.bool c30) rfl) rfl ?_
                  refine vops_nil ?_
                  obtain rfl := Option.some.inj hF
                  refine onlyE ?_
                  exact weak_sub ⟨rfl, rfl, rfl, rfl, rfl, rfl, rfl, rfl, rfl, rfl, trivial⟩
                · have hF := bifF c30 hF
                  obtain ⟨x31, h32, hF⟩ := bnd hF
                  refine vops_rd (rd_fieldAddr rfl tf_36_0 ts_22 (by decide)) rfl ?_
                  refine vops_rd (rd_load1 rfl (getO_N rfl rfl) rfl ta_22 rfl) rfl ?_
                  refine vops_rd (rd_str (xs := x22.1.Held) (src_vs rfl) te_22 ti_5 tst_9) rfl ?_
                  refine vops_rd (rd_fieldAddr rfl tf_36_0 ts_22 (by decide)) rfl ?_
                  refine vops_rd (rd_load1 rfl (getO_N rfl rfl) rfl ta_22 rfl) rfl ?_
                  refine vops_rd (rd_str (xs := x26.1.Held) (src_vs rfl) te_22 ti_5 tst_9) rfl ?_
                  refine vops_rd (rd_neqS rfl rfl) rfl ?_
                  refine vops_rd (rd_mvB rfl) rfl ?_
                  refine vops_take rfl (congrArg PV.bool c29) ?_
                  refine vops_rd (rd_fieldAddr rfl tf_36_1 ts_3 (by decide)) rfl ?_
                  refine vops_take rfl (congrArg PV.bool c29) ?_
                  refine vops_rd (rd_load1 rfl (getO_N rfl rfl) rfl ta_3 rfl) rfl ?_
                  refine vops_take rfl (congrArg PV.bool c29) ?_
                  refine vops_rd (rd_fieldAddr rfl tf_36_1 ts_3 (by decide)) rfl ?_
                  refine vops_take rfl (congrArg PV.bool c29) ?_
                  refine vops_rd (rd_load1 rfl (getO_N rfl rfl) rfl ta_3 rfl) rfl ?_
                  refine vops_take rfl (congrArg PV.bool c29) ?_
                  refine vops_rd (rd_neq rfl rfl) rfl ?_
                  refine vops_rd (rd_pickF (congrArg PV.bool c29) rfl) rfl ?_
                  refine vops_rd (rd_mvB rfl) rfl ?_
                  refine vops_take rfl (congrArg PV.bool c30) ?_
                  refine vops_rd (rd_mvV rfl) rfl ?_
                  refine vops_take rfl (congrArg PV.bool c30) ?_
                  refine vops_rd (rd_mvV rfl) rfl ?_
                  refine vops_take rfl (congrArg PV.bool c30) ?_
                  refine vops_efE (vef_callP rfl Try.call20 (F_ref04_Same_ok h32 _)) rfl ?_
                  refine vops_take rfl (congrArg PV.bool c30) ?_
                  refine vops_rd (rd_not rfl) rfl ?_
                  refine vops_rd (rd_pickF (congrArg PV.bool c30) rfl) rfl ?_
                  refine vops_nil ?_
                  obtain rfl := Option.some.inj hF
                  refine onlyE ?_
                  exact weak_sub ⟨rfl, rfl, rfl, rfl, rfl, rfl, rfl, rfl, rfl, rfl, trivial⟩
            · rintro _ _ _ _ ⟨rfl, hw⟩
              refine ⟨_, _, _, hw, ?_⟩
              refine vwp_cond rfl (fun c33 => ?_) (fun c33 => ?_)
              · have hF := bifT c33 hF
                refine vwp_seq ?_
                refine vwp_region ?_
                refine vops_rd (rd_asB rfl) rfl ?_
                refine vops_nil ?_
                refine vwp_ret ?_
                obtain rfl := Option.some.inj hF
                refine onlyE ?_
                exact weak_pick rfl [] (by decide) ⟨rn_low rfl (.bool _), trivial⟩ trivial
              · have hF := bifF c33 hF
                refine vwp_skip ?_
                refine vwp_seq ?_
                obtain ⟨x34, h35, hF⟩ := bnd hF
                obtain ⟨x36, h37, hF⟩ := bnd hF
                refine vwp_drawn [[], [], [], [1, 2], [0, 1, 2, 3], [0, 1, 2, 3, 4], [0, 1, 2, 3, 4, 5], [0, 1, 2, 3, 4, 5], [0, 1, 2, 3, 4, 5, 6], [0, 1, 2, 3, 4, 5, 6, 7, 8]] [false, false, false, false, false, false, false, false, true, false] [(low, [⟨36, 2, [.agg [.vs 1 (List.map (PV.int .u8) p1.Held), .int .i64 p1.Dropped]], 0⟩, ⟨36, 2, [.agg [.vs 1 (List.map (PV.int .u8) x22.1.Held), .int .i64 x22.1.Dropped]], 0⟩, ⟨36, 2, [.agg [.vs 1 (List.map (PV.int .u8) x26.1.Held), .int .i64 x26.1.Dropped]], 0⟩]), (low, [⟨36, 2, [.agg [.vs 1 (List.map (PV.int .u8) p1.Held), .int .i64 p1.Dropped]], 0⟩, ⟨36, 2, [.agg [.vs 1 (List.map (PV.int .u8) x36.1.Held), .int .i64 x36.1.Dropped]], 0⟩, ⟨36, 2, [.agg [.vs 1 (List.map (PV.int .u8) x26.1.Held), .int .i64 x26.1.Dropped]], 0⟩])] mixed (by kernel_rfl) rfl (lenAll (all1 rfl (all1 rfl all0))) rfl (low, [⟨36, 2, [.agg [.vs 1 (List.map (PV.int .u8) p1.Held), .int .i64 p1.Dropped]], 0⟩, ⟨36, 2, [.agg [.vs 1 (List.map (PV.int .u8) x36.1.Held), .int .i64 x36.1.Dropped]], 0⟩, ⟨36, 2, [.agg [.vs 1 (List.map (PV.int .u8) x26.1.Held), .int .i64 x26.1.Dropped]], 0⟩]) rfl rfl ?_
                refine dops_rdW [(low, [⟨36, 2, [.agg [.vs 1 (List.map (PV.int .u8) p1.Held), .int .i64 p1.Dropped]], 0⟩, ⟨36, 2, [.agg [.vs 1 (List.map (PV.int .u8) x22.1.Held), .int .i64 x22.1.Dropped]], 0⟩, ⟨36, 2, [.agg [.vs 1 (List.map (PV.int .u8) x26.1.Held), .int .i64 x26.1.Dropped]], 0⟩])] rfl rfl (all1 (VRd.ntl (rd_loadN (ds := [.vs 1 (List.map (PV.int .u8) x26.1.Held), .int .i64 x26.1.Dropped]) rfl (getO_N rfl rfl) rfl ta_36 ts_36 rfl rfl rfl)) all0) ?_
                refine dops_rdW [(low, [⟨36, 2, [.agg [.vs 1 (List.map (PV.int .u8) p1.Held), .int .i64 p1.Dropped]], 0⟩, ⟨36, 2, [.agg [.vs 1 (List.map (PV.int .u8) x22.1.Held), .int .i64 x22.1.Dropped]], 0⟩, ⟨36, 2, [.agg [.vs 1 (List.map (PV.int .u8) x26.1.Held), .int .i64 x26.1.Dropped]], 0⟩])] rfl rfl (all1 (VRd.ntl (rd_mvV rfl)) all0) ?_
                refine dops_rdW [(low, [⟨36, 2, [.agg [.vs 1 (List.map (PV.int .u8) p1.Held), .int .i64 p1.Dropped]], 0⟩, ⟨36, 2, [.agg [.vs 1 (List.map (PV.int .u8) x22.1.Held), .int .i64 x22.1.Dropped]], 0⟩, ⟨36, 2, [.agg [.vs 1 (List.map (PV.int .u8) x26.1.Held), .int .i64 x26.1.Dropped]], 0⟩])] rfl rfl (all1 (VRd.ntl (rd_mvI rfl)) all0) ?_
                refine dops_rdW [(low, [⟨36, 2, [.agg [.vs 1 (List.map (PV.int .u8) p1.Held), .int .i64 p1.Dropped]], 0⟩, ⟨36, 2, [.agg [.vs 1 (List.map (PV.int .u8) x22.1.Held), .int .i64 x22.1.Dropped]], 0⟩, ⟨36, 2, [.agg [.vs 1 (List.map (PV.int .u8) x26.1.Held), .int .i64 x26.1.Dropped]], 0⟩])] rfl rfl (all1 (VRd.ntl (rd_slV rfl te_22 ts_5 ⟨_, rfl⟩ rfl h35)) all0) ?_
                refine dops_rdW [(low, [⟨36, 2, [.agg [.vs 1 (List.map (PV.int .u8) p1.Held), .int .i64 p1.Dropped]], 0⟩, ⟨36, 2, [.agg [.vs 1 (List.map (PV.int .u8) x22.1.Held), .int .i64 x22.1.Dropped]], 0⟩, ⟨36, 2, [.agg [.vs 1 (List.map (PV.int .u8) x26.1.Held), .int .i64 x26.1.Dropped]], 0⟩])] rfl rfl (all1 (nt_of (vef_callP rfl Try.call18 (F_telegram_Feed_ok h37 _))) all0) ?_
                refine dops_rdW [(low, [⟨36, 2, [.agg [.vs 1 (List.map (PV.int .u8) p1.Held), .int .i64 p1.Dropped]], 0⟩, ⟨36, 2, [.agg [.vs 1 (List.map (PV.int .u8) x22.1.Held), .int .i64 x22.1.Dropped]], 0⟩, ⟨36, 2, [.agg [.vs 1 (List.map (PV.int .u8) x26.1.Held), .int .i64 x26.1.Dropped]], 0⟩])] rfl rfl (all1 (VRd.ntl (rd_mvT rfl)) all0) ?_
                refine dops_rdW [(low, [⟨36, 2, [.agg [.vs 1 (List.map (PV.int .u8) p1.Held), .int .i64 p1.Dropped]], 0⟩, ⟨36, 2, [.agg [.vs 1 (List.map (PV.int .u8) x22.1.Held), .int .i64 x22.1.Dropped]], 0⟩, ⟨36, 2, [.agg [.vs 1 (List.map (PV.int .u8) x26.1.Held), .int .i64 x26.1.Dropped]], 0⟩])] rfl rfl (all1 (VRd.ntl (rd_extract rfl rfl)) all0) ?_
                refine dops_rdW [(low, [⟨36, 2, [.agg [.vs 1 (List.map (PV.int .u8) p1.Held), .int .i64 p1.Dropped]], 0⟩, ⟨36, 2, [.agg [.vs 1 (List.map (PV.int .u8) x22.1.Held), .int .i64 x22.1.Dropped]], 0⟩, ⟨36, 2, [.agg [.vs 1 (List.map (PV.int .u8) x26.1.Held), .int .i64 x26.1.Dropped]], 0⟩]), (low, [⟨36, 2, [.agg [.vs 1 (List.map (PV.int .u8) p1.Held), .int .i64 p1.Dropped]], 0⟩, ⟨36, 2, [.agg [.vs 1 (List.map (PV.int .u8) x36.1.Held), .int .i64 x36.1.Dropped]], 0⟩, ⟨36, 2, [.agg [.vs 1 (List.map (PV.int .u8) x26.1.Held), .int .i64 x26.1.Dropped]], 0⟩])] rfl rfl (all1 (VRd.ntl (rd_extract rfl rfl)) (all1 (VRd.ntl (rd_extract rfl rfl)) all0)) ?_
                refine dops_ef (M := (low, [⟨36, 2, [.agg [.vs 1 (List.map (PV.int .u8) p1.Held), .int .i64 p1.Dropped]], 0⟩, ⟨36, 2, [.agg [.vs 1 (List.map (PV.int .u8) x22.1.Held), .int .i64 x22.1.Dropped]], 0⟩, ⟨36, 2, [.agg [.vs 1 (List.map (PV.int .u8) x26.1.Held), .int .i64 x26.1.Dropped]], 0⟩])) (M' := (low, [⟨36, 2, [.agg [.vs 1 (List.map (PV.int .u8) p1.Held), .int .i64 p1.Dropped]], 0⟩, ⟨36, 2, [.agg [.vs 1 (List.map (PV.int .u8) x36.1.Held), .int .i64 x36.1.Dropped]], 0⟩, ⟨36, 2, [.agg [.vs 1 (List.map (PV.int .u8) x26.1.Held), .int .i64 x26.1.Dropped]], 0⟩])) rfl rfl rfl (vef_store (p := .agg [.vs 1 (List.map (PV.int .u8) x36.1.Held), .int .i64 x36.1.Dropped]) (e' := .agg [.vs 1 (List.map (PV.int .u8) x36.1.Held), .int .i64 x36.1.Dropped]) rfl (getO_N rfl rfl) rfl rfl ts_36 rfl (nt_ne rfl) rfl (Nat.le_of_ble_eq_true rfl) rfl (setO_N rfl rfl)) ?_
                refine dops_rdW [(low, [⟨36, 2, [.agg [.vs 1 (List.map (PV.int .u8) p1.Held), .int .i64 p1.Dropped]], 0⟩, ⟨36, 2, [.agg [.vs 1 (List.map (PV.int .u8) x36.1.Held), .int .i64 x36.1.Dropped]], 0⟩, ⟨36, 2, [.agg [.vs 1 (List.map (PV.int .u8) x26.1.Held), .int .i64 x26.1.Dropped]], 0⟩])] rfl rfl (all1 (VRd.ntl (rd_asV rfl)) all0) ?_
                refine dops_nil ?_
                refine vwp_seq ?_
                obtain ⟨x38, h39, hF⟩ := bnd hF
                obtain ⟨x40, h41, hF⟩ := bnd hF
                refine vwp_drawn [[], [], [], [1, 2], [0, 1, 2, 3], [0, 1, 2, 3, 4], [0, 1, 2, 3, 4, 5], [0, 1, 2, 3, 4, 5], [0, 1, 2, 3, 4, 5, 6], [0, 1, 2, 3, 4, 5, 6, 7, 8]] [false, false, false, false, false, false, false, false, true, false] [(low, [⟨36, 2, [.agg [.vs 1 (List.map (PV.int .u8) p1.Held), .int .i64 p1.Dropped]], 0⟩, ⟨36, 2, [.agg [.vs 1 (List.map (PV.int .u8) x36.1.Held), .int .i64 x36.1.Dropped]], 0⟩, ⟨36, 2, [.agg [.vs 1 (List.map (PV.int .u8) x26.1.Held), .int .i64 x26.1.Dropped]], 0⟩]), (low, [⟨36, 2, [.agg [.vs 1 (List.map (PV.int .u8) p1.Held), .int .i64 p1.Dropped]], 0⟩, ⟨36, 2, [.agg [.vs 1 (List.map (PV.int .u8) x36.1.Held), .int .i64 x36.1.Dropped]], 0⟩, ⟨36, 2, [.agg [.vs 1 (List.map (PV.int .u8) x40.1.Held), .int .i64 x40.1.Dropped]], 0⟩])] mixed (by kernel_rfl) rfl (lenAll (all1 rfl (all1 rfl all0))) rfl (low, [⟨36, 2, [.agg [.vs 1 (List.map (PV.int .u8) p1.Held), .int .i64 p1.Dropped]], 0⟩, ⟨36, 2, [.agg [.vs 1 (List.map (PV.int .u8) x36.1.Held), .int .i64 x36.1.Dropped]], 0⟩, ⟨36, 2, [.agg [.vs 1 (List.map (PV.int .u8) x40.1.Held), .int .i64 x40.1.Dropped]], 0⟩]) rfl rfl ?_
                refine dops_rdW [(low, [⟨36, 2, [.agg [.vs 1 (List.map (PV.int .u8) p1.Held), .int .i64 p1.Dropped]], 0⟩, ⟨36, 2, [.agg [.vs 1 (List.map (PV.int .u8) x36.1.Held), .int .i64 x36.1.Dropped]], 0⟩, ⟨36, 2, [.agg [.vs 1 (List.map (PV.int .u8) x26.1.Held), .int .i64 x26.1.Dropped]], 0⟩])] rfl rfl (all1 (VRd.ntl (rd_loadN (ds := [.vs 1 (List.map (PV.int .u8) x26.1.Held), .int .i64 x26.1.Dropped]) rfl (getO_N rfl rfl) rfl ta_36 ts_36 rfl rfl rfl)) all0) ?_
                refine dops_rdW [(low, [⟨36, 2, [.agg [.vs 1 (List.map (PV.int .u8) p1.Held), .int .i64 p1.Dropped]], 0⟩, ⟨36, 2, [.agg [.vs 1 (List.map (PV.int .u8) x36.1.Held), .int .i64 x36.1.Dropped]], 0⟩, ⟨36, 2, [.agg [.vs 1 (List.map (PV.int .u8) x26.1.Held), .int .i64 x26.1.Dropped]], 0⟩])] rfl rfl (all1 (VRd.ntl (rd_mvV rfl)) all0) ?_
                refine dops_rdW [(low, [⟨36, 2, [.agg [.vs 1 (List.map (PV.int .u8) p1.Held), .int .i64 p1.Dropped]], 0⟩, ⟨36, 2, [.agg [.vs 1 (List.map (PV.int .u8) x36.1.Held), .int .i64 x36.1.Dropped]], 0⟩, ⟨36, 2, [.agg [.vs 1 (List.map (PV.int .u8) x26.1.Held), .int .i64 x26.1.Dropped]], 0⟩])] rfl rfl (all1 (VRd.ntl (rd_mvI rfl)) all0) ?_
                refine dops_rdW [(low, [⟨36, 2, [.agg [.vs 1 (List.map (PV.int .u8) p1.Held), .int .i64 p1.Dropped]], 0⟩, ⟨36, 2, [.agg [.vs 1 (List.map (PV.int .u8) x36.1.Held), .int .i64 x36.1.Dropped]], 0⟩, ⟨36, 2, [.agg [.vs 1 (List.map (PV.int .u8) x26.1.Held), .int .i64 x26.1.Dropped]], 0⟩])] rfl rfl (all1 (VRd.ntl (rd_slV rfl te_22 ts_5 ⟨_, rfl⟩ rfl h39)) all0) ?_
                refine dops_rdW [(low, [⟨36, 2, [.agg [.vs 1 (List.map (PV.int .u8) p1.Held), .int .i64 p1.Dropped]], 0⟩, ⟨36, 2, [.agg [.vs 1 (List.map (PV.int .u8) x36.1.Held), .int .i64 x36.1.Dropped]], 0⟩, ⟨36, 2, [.agg [.vs 1 (List.map (PV.int .u8) x26.1.Held), .int .i64 x26.1.Dropped]], 0⟩])] rfl rfl (all1 (nt_of (vef_callP rfl Try.call19 (F_ref04_Feed_ok h41 _))) all0) ?_
                refine dops_rdW [(low, [⟨36, 2, [.agg [.vs 1 (List.map (PV.int .u8) p1.Held), .int .i64 p1.Dropped]], 0⟩, ⟨36, 2, [.agg [.vs 1 (List.map (PV.int .u8) x36.1.Held), .int .i64 x36.1.Dropped]], 0⟩, ⟨36, 2, [.agg [.vs 1 (List.map (PV.int .u8) x26.1.Held), .int .i64 x26.1.Dropped]], 0⟩])] rfl rfl (all1 (VRd.ntl (rd_mvT rfl)) all0) ?_
                refine dops_rdW [(low, [⟨36, 2, [.agg [.vs 1 (List.map (PV.int .u8) p1.Held), .int .i64 p1.Dropped]], 0⟩, ⟨36, 2, [.agg [.vs 1 (List.map (PV.int .u8) x36.1.Held), .int .i64 x36.1.Dropped]], 0⟩, ⟨36, 2, [.agg [.vs 1 (List.map (PV.int .u8) x26.1.Held), .int .i64 x26.1.Dropped]], 0⟩])] rfl rfl (all1 (VRd.ntl (rd_extract rfl rfl)) all0) ?_
                refine dops_rdW [(low, [⟨36, 2, [.agg [.vs 1 (List.map (PV.int .u8) p1.Held), .int .i64 p1.Dropped]], 0⟩, ⟨36, 2, [.agg [.vs 1 (List.map (PV.int .u8) x36.1.Held), .int .i64 x36.1.Dropped]], 0⟩, ⟨36, 2, [.agg [.vs 1 (List.map (PV.int .u8) x26.1.Held), .int .i64 x26.1.Dropped]], 0⟩]), (low, [⟨36, 2, [.agg [.vs 1 (List.map (PV.int .u8) p1.Held), .int .i64 p1.Dropped]], 0⟩, ⟨36, 2, [.agg [.vs 1 (List.map (PV.int .u8) x36.1.Held), .int .i64 x36.1.Dropped]], 0⟩, ⟨36, 2, [.agg [.vs 1 (List.map (PV.int .u8) x40.1.Held), .int .i64 x40.1.Dropped]], 0⟩])] rfl rfl (all1 (VRd.ntl (rd_extract rfl rfl)) (all1 (VRd.ntl (rd_extract rfl rfl)) all0)) ?_
                refine dops_ef (M := (low, [⟨36, 2, [.agg [.vs 1 (List.map (PV.int .u8) p1.Held), .int .i64 p1.Dropped]], 0⟩, ⟨36, 2, [.agg [.vs 1 (List.map (PV.int .u8) x36.1.Held), .int .i64 x36.1.Dropped]], 0⟩, ⟨36, 2, [.agg [.vs 1 (List.map (PV.int .u8) x26.1.Held), .int .i64 x26.1.Dropped]], 0⟩])) (M' := (low, [⟨36, 2, [.agg [.vs 1 (List.map (PV.int .u8) p1.Held), .int .i64 p1.Dropped]], 0⟩, ⟨36, 2, [.agg [.vs 1 (List.map (PV.int .u8) x36.1.Held), .int .i64 x36.1.Dropped]], 0⟩, ⟨36, 2, [.agg [.vs 1 (List.map (PV.int .u8) x40.1.Held), .int .i64 x40.1.Dropped]], 0⟩])) rfl rfl rfl (vef_store (p := .agg [.vs 1 (List.map (PV.int .u8) x40.1.Held), .int .i64 x40.1.Dropped]) (e' := .agg [.vs 1 (List.map (PV.int .u8) x40.1.Held), .int .i64 x40.1.Dropped]) rfl (getO_N rfl rfl) rfl rfl ts_36 rfl (nt_ne rfl) rfl (Nat.le_of_ble_eq_true rfl) rfl (setO_N rfl rfl)) ?_
                refine dops_rdW [(low, [⟨36, 2, [.agg [.vs 1 (List.map (PV.int .u8) p1.Held), .int .i64 p1.Dropped]], 0⟩, ⟨36, 2, [.agg [.vs 1 (List.map (PV.int .u8) x36.1.Held), .int .i64 x36.1.Dropped]], 0⟩, ⟨36, 2, [.agg [.vs 1 (List.map (PV.int .u8) x40.1.Held), .int .i64 x40.1.Dropped]], 0⟩])] rfl rfl (all1 (VRd.ntl (rd_asV rfl)) all0) ?_
                refine dops_nil ?_
                refine vwp_seq ?_
                obtain ⟨o42, ho42, hF⟩ := bnd hF
                refine vwp_monoW (Q' := (fun o42 => OnlyE .normal (fun E' lw lc => Weak E' lw lc [(3, .int .i64 p3), (5, .ptr (low.length + 0) 0 0 0), (35, .vs 1 (List.map (encS 1 (PV.int .u8)) [x9.2, p2])), (36, .int .i64 (([x9.2, p2]).length : Int)), (37, .int .i64 s11), (117, .bool o42)] low [⟨36, 2, [.agg [.vs 1 (List.map (PV.int .u8) p1.Held), .int .i64 p1.Dropped]], 0⟩])) o42) ?_ ?_
                · replace hF := ho42
                  refine vwp_region ?_
                  rcases Bool.eq_false_or_eq_true (!((strOfNums x36.1.Held).toList == (strOfNums x40.1.Held).toList)) with c43 | c43
                  · have hF := bifT c43 hF
                    refine vops_rd (rd_fieldAddr rfl tf_36_0 ts_22 (by decide)) rfl ?_
                    refine vops_rd (rd_load1 rfl (getO_N rfl rfl) rfl ta_22 rfl) rfl ?_
                    refine vops_rd (rd_str (xs := x36.1.Held) (src_vs rfl) te_22 ti_5 tst_9) rfl ?_
                    refine vops_rd (rd_fieldAddr rfl tf_36_0 ts_22 (by decide)) rfl ?_
                    refine vops_rd (rd_load1 rfl (getO_N rfl rfl) rfl ta_22 rfl) rfl ?_
                    refine vops_rd (rd_str (xs := x40.1.Held) (src_vs rfl) te_22 ti_5 tst_9) rfl ?_
                    refine vops_rd (rd_neqS rfl rfl) rfl ?_
                    refine vops_rd (rd_mvB rfl) rfl ?_
                    refine vops_skip rfl rfl (neT c43) rfl ?_
                    refine vops_skip rfl rfl (neT c43) rfl ?_
                    refine vops_skip rfl rfl (neT c43) rfl ?_
                    refine vops_skip rfl rfl (neT c43) rfl ?_
                    refine vops_skip rfl rfl (neT c43) rfl ?_
                    refine vops_rd (rd_pickT (congrArg PV.bool c43) rfl) rfl ?_
                    refine vops_rd (rd_mvB rfl) rfl ?_
                    refine vops_skip rfl rfl (by decide) rfl ?_
                    refine vops_skip rfl rfl (by decide) rfl ?_
                    refine vops_skip rfl rfl (by decide) rfl ?_
                    refine vops_skip rfl rfl (by decide) rfl ?_
                    refine vops_rd (rd_pickT rfl rfl) rfl ?_
                    refine vops_nil ?_
                    obtain rfl := Option.some.inj hF
                    refine onlyE ?_
                    exact weak_pick rfl [(0, 0)] (by decide) ⟨rn_low rfl (.int _ _), rn_ptr 0 0 rfl rfl, rn_low rfl (.vs _ _), rn_low rfl (.int _ _), rn_low rfl (.int _ _), rn_low rfl (.bool _), trivial⟩ ⟨⟨_, rfl, rfl, .same _ _ _ _ (ltObj_es ⟨(lt_agg ⟨.vs _ _, .int _ _, trivial⟩), trivial⟩)⟩, trivial⟩
                  · have hF := bifF c43 hF
                    rcases Bool.eq_false_or_eq_true (decide (x36.1.Dropped ≠ x40.1.Dropped)) with c44 | c44
                    · have hF := bifT c44 hF
                      refine vops_rd (rd_fieldAddr rfl tf_36_0 ts_22 (by decide)) rfl ?_
                      refine vops_rd (rd_load1 rfl (getO_N rfl rfl) rfl ta_22 rfl) rfl ?_
                      refine vops_rd (rd_str (xs := x36.1.Held) (src_vs rfl) te_22 ti_5 tst_9) rfl ?_
                      refine vops_rd (rd_fieldAddr rfl tf_36_0 ts_22 (by decide)) rfl ?_
                      refine vops_rd (rd_load1 rfl (getO_N rfl rfl) rfl ta_22 rfl) rfl ?_
                      refine vops_rd (rd_str (xs := x40.1.Held) (src_vs rfl) te_22 ti_5 tst_9) rfl ?_
                      refine vops_rd (rd_neqS rfl rfl) rfl ?_
                      refine vops_rd (rd_mvB rfl) rfl ?_
                      refine vops_take rfl (congrArg PV.bool c43) ?_
                      refine vops_rd (rd_fieldAddr rfl tf_36_1 ts_3 (by decide)) rfl ?_
                      refine vops_take rfl (congrArg PV.bool c43) ?_
                      refine vops_rd (rd_load1 rfl (getO_N rfl rfl) rfl ta_3 rfl) rfl ?_
                      refine vops_take rfl (congrArg PV.bool c43) ?_
                      refine vops_rd (rd_fieldAddr rfl tf_36_1 ts_3 (by decide)) rfl ?_
                      refine vops_take rfl (congrArg PV.bool c43) ?_
                      refine vops_rd (rd_load1 rfl (getO_N rfl rfl) rfl ta_3 rfl) rfl ?_
                      refine vops_take rfl (congrArg PV.bool c43) ?_
                      refine vops_rd (rd_neq rfl rfl) rfl ?_
                      refine vops_rd (rd_pickF (congrArg PV.bool c43) rfl) rfl ?_
                      refine vops_rd (rd_mvB rfl) rfl ?_
                      refine vops_skip rfl rfl (neT c44) rfl ?_
                      refine vops_skip rfl rfl (neT c44) rfl ?_
                      refine vops_skip rfl rfl (neT c44) rfl ?_
                      refine vops_skip rfl rfl (neT c44) rfl ?_
                      refine vops_rd (rd_pickT (congrArg PV.bool c44) rfl) rfl ?_
                      refine vops_nil ?_
                      obtain rfl := Option.some.inj hF
                      refine onlyE ?_
                      exact weak_pick rfl [(0, 0)] (by decide) ⟨rn_low rfl (.int _ _), rn_ptr 0 0 rfl rfl, rn_low rfl (.vs _ _), rn_low rfl (.int _ _), rn_low rfl (.int _ _), rn_low rfl (.bool _), trivial⟩ ⟨⟨_, rfl, rfl, .same _ _ _ _ (ltObj_es ⟨(lt_agg ⟨.vs _ _, .int _ _, trivial⟩), trivial⟩)⟩, trivial⟩
                    · have hF := bifF c44 hF
                      obtain ⟨x45, h46, hF⟩ := bnd hF
                      refine vops_rd (rd_fieldAddr rfl tf_36_0 ts_22 (by decide)) rfl ?_
                      refine vops_rd (rd_load1 rfl (getO_N rfl rfl) rfl ta_22 rfl) rfl ?_
                      refine vops_rd (rd_str (xs := x36.1.Held) (src_vs rfl) te_22 ti_5 tst_9) rfl ?_
                      refine vops_rd (rd_fieldAddr rfl tf_36_0 ts_22 (by decide)) rfl ?_
                      refine vops_rd (rd_load1 rfl (getO_N rfl rfl) rfl ta_22 rfl) rfl ?_
                      refine vops_rd (rd_str (xs := x40.1.Held) (src_vs rfl) te_22 ti_5 tst_9) rfl ?_
                      refine vops_rd (rd_neqS rfl rfl) rfl ?_
                      refine vops_rd (rd_mvB rfl) rfl ?_
                      refine vops_take rfl (congrArg PV.bool c43) ?_
                      refine vops_rd (rd_fieldAddr rfl tf_36_1 ts_3 (by decide)) rfl ?_
                      refine vops_take rfl (congrArg PV.bool c43) ?_
                      refine vops_rd (rd_load1 rfl (getO_N rfl rfl) rfl ta_3 rfl) rfl ?_
                      refine vops_take rfl (congrArg PV.bool c43) ?_
                      refine vops_rd (rd_fieldAddr rfl tf_36_1 ts_3 (by decide)) rfl ?_
                      refine vops_take rfl (congrArg PV.bool c43) ?_
                      refine vops_rd (rd_load1 rfl (getO_N rfl rfl) rfl ta_3 rfl) rfl ?_
                      refine vops_take rfl (congrArg PV.bool c43) ?_
                      refine vops_rd (rd_neq rfl rfl) rfl ?_
                      refine vops_rd (rd_pickF (congrArg PV.bool c43) rfl) rfl ?_
                      refine vops_rd (rd_mvB rfl) rfl ?_
                      refine vops_take rfl (congrArg PV.bool c44) ?_
                      refine vops_rd (rd_mvV rfl) rfl ?_
                      refine vops_take rfl (congrArg PV.bool c44) ?_
                      refine vops_rd (rd_mvV rfl) rfl ?_
                      refine vops_take rfl (congrArg PV.bool c44) ?_
                      refine vops_efE (vef_callP rfl Try.call20 (F_ref04_Same_ok h46 _)) rfl ?_
                      refine vops_take rfl (congrArg PV.bool c44) ?_
                      refine vops_rd (rd_not rfl) rfl ?_
                      refine vops_rd (rd_pickF (congrArg PV.bool c44) rfl) rfl ?_
                      refine vops_nil ?_
                      obtain rfl := Option.some.inj hF
                      refine onlyE ?_
                      exact weak_pick rfl [(0, 0)] (by decide) ⟨rn_low rfl (.int _ _), rn_ptr 0 0 rfl rfl, rn_low rfl (.vs _ _), rn_low rfl (.int _ _), rn_low rfl (.int _ _), rn_low rfl (.bool _), trivial⟩ ⟨⟨_, rfl, rfl, .same _ _ _ _ (ltObj_es ⟨(lt_agg ⟨.vs _ _, .int _ _, trivial⟩), trivial⟩)⟩, trivial⟩
                · rintro _ _ _ _ ⟨rfl, hw⟩
                  refine ⟨_, _, _, hw, ?_⟩
                  refine vwp_cond rfl (fun c47 => ?_) (fun c47 => ?_)
                  · have hF := bifT c47 hF
                    refine vwp_seq ?_
                    refine vwp_region ?_
                    refine vops_rd (rd_asB rfl) rfl ?_
                    refine vops_nil ?_
                    refine vwp_ret ?_
                    obtain rfl := Option.some.inj hF
                    refine onlyE ?_
                    exact weak_pick rfl [] (by decide) ⟨rn_low rfl (.bool _), trivial⟩ trivial
                  · have hF := bifF c47 hF
                    refine vwp_skip ?_
                    refine vwp_region ?_
                    refine vops_rd (rd_add rfl rfl rfl) rfl ?_
                    refine vops_rd (rd_mvI rfl) rfl ?_
                    refine vops_nil ?_
                    obtain rfl := Option.some.inj hF
                    refine onlyE ?_
                    exact weak_sub ⟨rfl, rfl, rfl, rfl, rfl, trivial⟩
          · have hF := bifF c15 hF
            refine vwp_exit ?_
            obtain rfl := Option.some.inj hF
            refine onlyE ?_
            exact weak_pick rfl [] (by decide) trivial trivial
        · rcases o12 with j13 | j14
          · replace hF := elimL hF
            rintro _ _ _ _ ⟨rfl, hw⟩
            refine ⟨_, _, _, hw, ?_⟩
            obtain rfl := Option.some.inj hF
            refine fnR ?_
            exact weak_sub ⟨rfl, trivial⟩
          · replace hF := elimR hF
            rintro _ _ _ _ ⟨rfl, hw⟩
            refine ⟨_, _, _, hw, ?_⟩
            refine vwp_seq ?_
            refine vwp_region ?_
            obtain ⟨x48, h49, hF⟩ := bnd hF
            refine vops_efE (vef_callP rfl Try.call9 (F_law04_awake_ok h49 _)) rfl ?_
            refine vops_rd (rd_asB rfl) rfl ?_
            refine vops_nil ?_
            refine vwp_ret ?_
            obtain rfl := Option.some.inj hF
            refine fnR ?_
            exact weak_sub ⟨rfl, trivial⟩
  · rintro _ _ _ _ ⟨he, hw⟩
    refine ⟨_, _, _, hw, ?_⟩
    exact bodyQ_pure he [.bool r] ⟨rfl, trivial⟩ (.bool _) ⟨rfl, rfl⟩

theorem F_law04_TelegramPieces_ok {p0 : List Int} {p1 : List Int} {r : Bool} (hF : F_law04_TelegramPieces p0 p1 = some r) (low : List AObj) :
    VCalls Try.prog 5 [.vs 1 (List.map (PV.int .u8) p0), .vs 1 (List.map (PV.int .u8) p1)] low fun x low' => x = .bool r ∧ low' = low := by
  refine vcalls_of_body (nt := 88) (rs := [.tmp 4]) Try.func5 rfl rfl (Nat.le_of_ble_eq_true rfl) rfl ?_
  refine vwp_monoW (Q' := FnE (fun E' lw lc => Weak E' lw lc [(4, .bool r)] low [])) ?_ ?_
  · unfold F_law04_TelegramPieces at hF
    refine vwp_seq ?_
    refine vwp_region ?_
    refine vops_rd (rd_asB rfl) rfl ?_
    refine vops_nil ?_
    refine vwp_seq ?_
    refine vwp_region ?_
    obtain ⟨x1, h2, hF⟩ := bnd hF
    obtain ⟨x3, h4, hF⟩ := bnd hF
    refine vops_rd (rd_mvV rfl) rfl ?_
    refine vops_efE (vef_callN (r := .ptr (low.length + 0) 0 0 0) (os := [⟨48, 2, [.agg [.vs 1 (List.map (PV.int .u8) x1.l), .int .i64 x1.at_]], 0⟩]) rfl Try.call10 (F_draw_New_ok h2 _ (len_app rfl rfl))) rfl ?_
    refine vops_efE (vef_callMN (k := 0) (loc1 := [⟨48, 2, [.agg [.vs 1 (List.map (PV.int .u8) x3.1.l), .int .i64 x3.1.at_]], 0⟩]) rfl rfl Try.call16 (F_draw_Codes_Bytes_ok h4 (get_N rfl rfl)) rfl) rfl ?_
    refine vops_rd (rd_asV rfl) rfl ?_
    refine vops_nil ?_
    refine vwp_seq ?_
    refine vwp_region ?_
    obtain ⟨x5, h6, hF⟩ := bnd hF
    refine vops_rd (rd_nc (rd_build (vs := []) (ds := [.nils, .int .i64 0]) tz_36 rfl rfl tp_36 trivial (nt_all2 rfl) rfl) (nc_agg (cs := [.nils, .int .i64 0]) (ds := [.vs 1 (List.map (PV.int .u8) ([] : List Int)), .int .i64 0]) rfl rfl ⟨nc_nil rfl rfl, nc_eq rfl, trivial⟩)) rfl ?_
    refine vops_rd (rd_mvV rfl) rfl ?_
    refine vops_efE (vef_callP rfl Try.call18 (F_telegram_Feed_ok h6 _)) rfl ?_
    refine vops_rd (rd_mvT rfl) rfl ?_
    refine vops_rd (rd_extract rfl rfl) rfl ?_
    refine vops_rd (rd_extract rfl rfl) rfl ?_
    refine vops_efE (vef_allocN rfl rfl tz_36 rfl rfl (Nat.succ_pos _) rfl) rfl ?_
    refine vops_efE (vef_store (p := .agg [.vs 1 (List.map (PV.int .u8) x5.1.Held), .int .i64 x5.1.Dropped]) (e' := .agg [.vs 1 (List.map (PV.int .u8) x5.1.Held), .int .i64 x5.1.Dropped]) rfl (getO_N rfl rfl) rfl rfl ts_36 rfl (nt_ne rfl) rfl (Nat.le_of_ble_eq_true rfl) rfl (setO_N rfl rfl)) rfl ?_
    refine vops_rd (rd_asV rfl) rfl ?_
    refine vops_nil ?_
    refine vwp_seq ?_
    refine vwp_region ?_
    refine vops_efE (vef_allocN rfl rfl tz_36 rfl rfl (Nat.succ_pos _) rfl) rfl ?_
    refine vops_nil ?_
    refine vwp_seq ?_
    refine vwp_region ?_
    refine vops_efE (vef_nilsN rfl rfl 24 3 (Nat.succ_pos _) (rd_asN rfl)) rfl ?_
    refine vops_nil ?_
    refine vwp_seq ?_
    refine vwp_seq ?_
    refine vwp_region ?_
    refine vops_rd (rd_asI rfl) rfl ?_
    refine vops_nil ?_
    refine vwp_block ?_
    obtain ⟨o8, ho8, hF⟩ := bnd hF
    refine vwp_monoW (vwp_loopC (F_law04_TelegramPieces_L1 p1) (fun s7 E' lw lc => Weak E' lw lc [(1, .vs 1 (List.map (PV.int .u8) p1)), (5, .vs 1 (List.map (PV.int .u8) s7.1)), (6, .ptr (low.length + 0) 0 0 0), (7, .vs 3 (List.map T_Frame.enc x5.2)), (8, .ptr (low.length + 1) 0 0 0), (9, .sl (low.length + 2) 0 0 (s7.2.2.2).length), (10, .int .i64 s7.2.1)] low [⟨36, 2, [.agg [.vs 1 (List.map (PV.int .u8) x5.1.Held), .int .i64 x5.1.Dropped]], 0⟩, ⟨36, 2, [.agg [.vs 1 (List.map (PV.int .u8) s7.2.2.1.Held), .int .i64 s7.2.2.1.Dropped]], 0⟩, ⟨24, 3, List.map T_Frame.enc s7.2.2.2, 0⟩]) (fun o8 => OnlyE (.exit 0) (fun E' lw lc => Weak E' lw lc [(6, .ptr (low.length + 0) 0 0 0), (7, .vs 3 (List.map T_Frame.enc x5.2)), (8, .ptr (low.length + 1) 0 0 0), (9, .sl (low.length + 2) 0 0 (o8.2).length)] low [⟨36, 2, [.agg [.vs 1 (List.map (PV.int .u8) x5.1.Held), .int .i64 x5.1.Dropped]], 0⟩, ⟨36, 2, [.agg [.vs 1 (List.map (PV.int .u8) o8.1.Held), .int .i64 o8.1.Dropped]], 0⟩, ⟨24, 3, List.map T_Frame.enc o8.2, 0⟩])) ho8 ?_ (by rintro _ _ _ _ ⟨h, _⟩ <;> cases h) ?_) ?_
    · refine Weak.trans (weak_conv (E' := [(1, .vs 1 (List.map (PV.int .u8) p1)), (5, .vs 1 (List.map (PV.int .u8) x3.2)), (6, .ptr (low.length + 1) 0 0 0), (7, .vs 3 (List.map T_Frame.enc x5.2)), (8, .ptr (low.length + 2) 0 0 0), (9, .sl (low.length + 3) 0 0 (([] : List T_Frame)).length), (10, .int .i64 0)]) (loc1 := [⟨48, 2, [.agg [.vs 1 (List.map (PV.int .u8) x3.1.l), .int .i64 x3.1.at_]], 0⟩, ⟨36, 2, [.agg [.vs 1 (List.map (PV.int .u8) x5.1.Held), .int .i64 x5.1.Dropped]], 0⟩, ⟨36, 2, [.agg [.vs 1 (List.map (PV.int .u8) ([] : List Int)), .int .i64 0]], 0⟩, ⟨24, 3, List.map T_Frame.enc ([] : List T_Frame), 0⟩]) ⟨0, 0, [], 0⟩ ⟨cv_same rfl, cv_same rfl, cv_same rfl, cv_same rfl, cv_same rfl, cv_same rfl, cv_same rfl, trivial⟩ ⟨.refl _, .refl _, cvo_agg ⟨cv_nil rfl rfl, cv_same rfl, trivial⟩, .refl _, trivial⟩) ?_
      exact weak_pick rfl [(1, 0), (2, 0), (3, 0)] (by decide) ⟨rn_low rfl (.vs _ _), rn_low rfl (.vs _ _), rn_ptr 0 1 rfl rfl, rn_low rfl (.vs _ _), rn_ptr 1 2 rfl rfl, rn_sl 2 3 rfl rfl, rn_low rfl (.int _ _), trivial⟩ ⟨⟨_, rfl, rfl, .same _ _ _ _ (ltObj_es ⟨(lt_agg ⟨.vs _ _, .int _ _, trivial⟩), trivial⟩)⟩, ⟨_, rfl, rfl, .same _ _ _ _ (ltObj_es ⟨(lt_agg ⟨.vs _ _, .int _ _, trivial⟩), trivial⟩)⟩, ⟨_, rfl, rfl, .same _ _ _ _ (ltObj_es trivial)⟩, trivial⟩
    · rintro s7 os7 _ _ _ hF hw
      unfold F_law04_TelegramPieces_L1 at hF
      refine vwp_weak hw ?_
      refine vwp_seq ?_
      refine vwp_seq ?_
      refine vwp_region ?_
      refine vops_rd (rd_mvV rfl) rfl ?_
      refine vops_rd (rd_to (rd_lenV rfl rfl te_22) (congrArg (fun n : Nat => PV.int .i64 (n : Int)) (List.length_map _))) rfl ?_
      refine vops_rd (rd_gtr rfl rfl) rfl ?_
      refine vops_nil ?_
      refine vwp_cond rfl (fun c9 => ?_) (fun c9 => ?_)
      · have hF := bifT c9 hF
        refine vwp_skip ?_
        refine vwp_seq ?_
        refine vwp_block ?_
        refine vwp_seq ?_
        refine vwp_region ?_
        refine vops_rd (rd_mvV rfl) rfl ?_
        refine vops_rd (rd_to (rd_lenV rfl rfl te_22) (congrArg (fun n : Nat => PV.int .i64 (n : Int)) (List.length_map _))) rfl ?_
        refine vops_rd (rd_asI rfl) rfl ?_
        refine vops_nil ?_
        refine vwp_seq ?_
        refine vwp_seq ?_
        obtain ⟨o10, ho10, hF⟩ := bnd hF
        refine vwp_monoW (Q' := (fun o10 => OnlyE .normal (fun E' lw lc => Weak E' lw lc [(1, .vs 1 (List.map (PV.int .u8) p1)), (5, .vs 1 (List.map (PV.int .u8) s7.1)), (6, .ptr (low.length + 0) 0 0 0), (7, .vs 3 (List.map T_Frame.enc x5.2)), (8, .ptr (low.length + 1) 0 0 0), (9, .sl (low.length + 2) 0 0 (s7.2.2.2).length), (10, .int .i64 s7.2.1), (11, .int .i64 ((s7.1).length : Int)), (36, .bool o10)] low [⟨36, 2, [.agg [.vs 1 (List.map (PV.int .u8) x5.1.Held), .int .i64 x5.1.Dropped]], 0⟩, ⟨36, 2, [.agg [.vs 1 (List.map (PV.int .u8) s7.2.2.1.Held), .int .i64 s7.2.2.1.Dropped]], 0⟩, ⟨24, 3, List.map T_Frame.enc s7.2.2.2, 0⟩])) o10) ?_ ?_
        · replace hF := ho10
          refine vwp_region ?_
          rcases Bool.eq_false_or_eq_true (decide (s7.2.1 < ((p1).length : Int))) with c11 | c11
          · have hF := bifT c11 hF
            refine vops_rd (rd_mvI rfl) rfl ?_
            refine vops_rd (rd_mvV rfl) rfl ?_
            refine vops_rd (rd_to (rd_lenV rfl rfl te_22) (congrArg (fun n : Nat => PV.int .i64 (n : Int)) (List.length_map _))) rfl ?_
            refine vops_rd (rd_lss rfl rfl) rfl ?_
            refine vops_rd (rd_mvB rfl) rfl ?_
            refine vops_take rfl (congrArg PV.bool c11) ?_
            refine vops_rd (rd_mvI rfl) rfl ?_
            refine vops_take rfl (congrArg PV.bool c11) ?_
            refine vops_rd (rd_lss rfl rfl) rfl ?_
            refine vops_rd (rd_pickT (congrArg PV.bool c11) rfl) rfl ?_
            refine vops_nil ?_
            obtain rfl := Option.some.inj hF
            refine onlyE ?_
            exact weak_sub ⟨rfl, rfl, rfl, rfl, rfl, rfl, rfl, rfl, rfl, trivial⟩
          · have hF := bifF c11 hF
            refine vops_rd (rd_mvI rfl) rfl ?_
            refine vops_rd (rd_mvV rfl) rfl ?_
            refine vops_rd (rd_to (rd_lenV rfl rfl te_22) (congrArg (fun n : Nat => PV.int .i64 (n : Int)) (List.length_map _))) rfl ?_
            refine vops_rd (rd_lss rfl rfl) rfl ?_
            refine vops_rd (rd_mvB rfl) rfl ?_
            refine vops_skip rfl rfl (neF c11) rfl ?_
            refine vops_skip rfl rfl (neF c11) rfl ?_
            refine vops_rd (rd_pickF (congrArg PV.bool c11) rfl) rfl ?_
            refine vops_nil ?_
            obtain rfl := Option.some.inj hF
            refine onlyE ?_
            exact weak_sub ⟨rfl, rfl, rfl, rfl, rfl, rfl, rfl, rfl, rfl, trivial⟩
        · rintro _ _ _ _ ⟨rfl, hw⟩
          refine ⟨_, _, _, hw, ?_⟩
          obtain ⟨o12, ho12, hF⟩ := bnd hF
          refine vwp_monoW (Q' := (fun o12 => OnlyE .normal (fun E' lw lc => Weak E' lw lc [(1, .vs 1 (List.map (PV.int .u8) p1)), (5, .vs 1 (List.map (PV.int .u8) s7.1)), (6, .ptr (low.length + 0) 0 0 0), (7, .vs 3 (List.map T_Frame.enc x5.2)), (8, .ptr (low.length + 1) 0 0 0), (9, .sl (low.length + 2) 0 0 (s7.2.2.2).length), (10, .int .i64 s7.2.1), (11, .int .i64 o12)] low [⟨36, 2, [.agg [.vs 1 (List.map (PV.int .u8) x5.1.Held), .int .i64 x5.1.Dropped]], 0⟩, ⟨36, 2, [.agg [.vs 1 (List.map (PV.int .u8) s7.2.2.1.Held), .int .i64 s7.2.2.1.Dropped]], 0⟩, ⟨24, 3, List.map T_Frame.enc s7.2.2.2, 0⟩])) o12) ?_ ?_
          · replace hF := ho12
            refine vwp_cond rfl (fun c13 => ?_) (fun c13 => ?_)
            · have hF := bifT c13 hF
              refine vwp_region ?_
              obtain ⟨x14, h15, hF⟩ := bnd hF
              refine vops_rd (rd_mvI rfl) rfl ?_
              refine vops_rd (rd_mvV rfl) rfl ?_
              refine vops_rd (rd_mvI rfl) rfl ?_
              refine vops_rd (rd_to (rd_ixV rfl rfl h15 te_22 ts_5) (v' := .vptr [.int .u8 x14] 0) rfl) rfl ?_
              refine vops_rd (rd_loadV1 rfl ta_5 rfl) rfl ?_
              refine vops_rd (rd_conv rfl us_5 ti_3 rfl) rfl ?_
              refine vops_rd (rd_rem rfl rfl (by decide) rfl) rfl ?_
              refine vops_rd (rd_add rfl rfl rfl) rfl ?_
              refine vops_rd (rd_min rfl rfl) rfl ?_
              refine vops_rd (rd_asI rfl) rfl ?_
              refine vops_nil ?_
              obtain rfl := Option.some.inj hF
              refine onlyE ?_
              exact weak_sub ⟨rfl, rfl, rfl, rfl, rfl, rfl, rfl, rfl, trivial⟩
            · have hF := bifF c13 hF
              refine vwp_skip ?_
              obtain rfl := Option.some.inj hF
              refine onlyE ?_
              exact weak_sub ⟨rfl, rfl, rfl, rfl, rfl, rfl, rfl, rfl, trivial⟩
          · rintro _ _ _ _ ⟨rfl, hw⟩
            refine ⟨_, _, _, hw, ?_⟩
            refine vwp_seq ?_
            refine vwp_region ?_
            refine vops_rd (rd_nv (sz := 3) (rd_asN rfl)) rfl ?_
            refine vops_nil ?_
            refine vwp_seq ?_
            obtain ⟨x16, h17, hF⟩ := bnd hF
            obtain ⟨x18, h19, hF⟩ := bnd hF
            refine vwp_drawn [[], [], [], [1, 2], [0, 1, 2, 3], [0, 1, 2, 3, 4], [0, 1, 2, 3, 4, 5], [0, 1, 2, 3, 4, 5], [0, 1, 2, 3, 4, 5, 6], [0, 1, 2, 3, 4, 5, 6, 7, 8]] [false, false, false, false, false, false, false, false, true, false] [(low, [⟨36, 2, [.agg [.vs 1 (List.map (PV.int .u8) x5.1.Held), .int .i64 x5.1.Dropped]], 0⟩, ⟨36, 2, [.agg [.vs 1 (List.map (PV.int .u8) s7.2.2.1.Held), .int .i64 s7.2.2.1.Dropped]], 0⟩, ⟨24, 3, List.map T_Frame.enc s7.2.2.2, 0⟩]), (low, [⟨36, 2, [.agg [.vs 1 (List.map (PV.int .u8) x5.1.Held), .int .i64 x5.1.Dropped]], 0⟩, ⟨36, 2, [.agg [.vs 1 (List.map (PV.int .u8) x18.1.Held), .int .i64 x18.1.Dropped]], 0⟩, ⟨24, 3, List.map T_Frame.enc s7.2.2.2, 0⟩])] mixed (by kernel_rfl) rfl (lenAll (all1 rfl (all1 rfl all0))) rfl (low, [⟨36, 2, [.agg [.vs 1 (List.map (PV.int .u8) x5.1.Held), .int .i64 x5.1.Dropped]], 0⟩, ⟨36, 2, [.agg [.vs 1 (List.map (PV.int .u8) x18.1.Held), .int .i64 x18.1.Dropped]], 0⟩, ⟨24, 3, List.map T_Frame.enc s7.2.2.2, 0⟩]) rfl rfl ?_
            refine dops_rdW [(low, [⟨36, 2, [.agg [.vs 1 (List.map (PV.int .u8) x5.1.Held), .int .i64 x5.1.Dropped]], 0⟩, ⟨36, 2, [.agg [.vs 1 (List.map (PV.int .u8) s7.2.2.1.Held), .int .i64 s7.2.2.1.Dropped]], 0⟩, ⟨24, 3, List.map T_Frame.enc s7.2.2.2, 0⟩])] rfl rfl (all1 (VRd.ntl (rd_loadN (ds := [.vs 1 (List.map (PV.int .u8) s7.2.2.1.Held), .int .i64 s7.2.2.1.Dropped]) rfl (getO_N rfl rfl) rfl ta_36 ts_36 rfl rfl rfl)) all0) ?_
            refine dops_rdW [(low, [⟨36, 2, [.agg [.vs 1 (List.map (PV.int .u8) x5.1.Held), .int .i64 x5.1.Dropped]], 0⟩, ⟨36, 2, [.agg [.vs 1 (List.map (PV.int .u8) s7.2.2.1.Held), .int .i64 s7.2.2.1.Dropped]], 0⟩, ⟨24, 3, List.map T_Frame.enc s7.2.2.2, 0⟩])] rfl rfl (all1 (VRd.ntl (rd_mvV rfl)) all0) ?_
            refine dops_rdW [(low, [⟨36, 2, [.agg [.vs 1 (List.map (PV.int .u8) x5.1.Held), .int .i64 x5.1.Dropped]], 0⟩, ⟨36, 2, [.agg [.vs 1 (List.map (PV.int .u8) s7.2.2.1.Held), .int .i64 s7.2.2.1.Dropped]], 0⟩, ⟨24, 3, List.map T_Frame.enc s7.2.2.2, 0⟩])] rfl rfl (all1 (VRd.ntl (rd_mvI rfl)) all0) ?_
            refine dops_rdW [(low, [⟨36, 2, [.agg [.vs 1 (List.map (PV.int .u8) x5.1.Held), .int .i64 x5.1.Dropped]], 0⟩, ⟨36, 2, [.agg [.vs 1 (List.map (PV.int .u8) s7.2.2.1.Held), .int .i64 s7.2.2.1.Dropped]], 0⟩, ⟨24, 3, List.map T_Frame.enc s7.2.2.2, 0⟩])] rfl rfl (all1 (VRd.ntl (rd_slV rfl te_22 ts_5 rfl ⟨_, rfl⟩ h17)) all0) ?_
            refine dops_rdW [(low, [⟨36, 2, [.agg [.vs 1 (List.map (PV.int .u8) x5.1.Held), .int .i64 x5.1.Dropped]], 0⟩, ⟨36, 2, [.agg [.vs 1 (List.map (PV.int .u8) s7.2.2.1.Held), .int .i64 s7.2.2.1.Dropped]], 0⟩, ⟨24, 3, List.map T_Frame.enc s7.2.2.2, 0⟩])] rfl rfl (all1 (nt_of (vef_callP rfl Try.call18 (F_telegram_Feed_ok h19 _))) all0) ?_
            refine dops_rdW [(low, [⟨36, 2, [.agg [.vs 1 (List.map (PV.int .u8) x5.1.Held), .int .i64 x5.1.Dropped]], 0⟩, ⟨36, 2, [.agg [.vs 1 (List.map (PV.int .u8) s7.2.2.1.Held), .int .i64 s7.2.2.1.Dropped]], 0⟩, ⟨24, 3, List.map T_Frame.enc s7.2.2.2, 0⟩])] rfl rfl (all1 (VRd.ntl (rd_mvT rfl)) all0) ?_
            refine dops_rdW [(low, [⟨36, 2, [.agg [.vs 1 (List.map (PV.int .u8) x5.1.Held), .int .i64 x5.1.Dropped]], 0⟩, ⟨36, 2, [.agg [.vs 1 (List.map (PV.int .u8) s7.2.2.1.Held), .int .i64 s7.2.2.1.Dropped]], 0⟩, ⟨24, 3, List.map T_Frame.enc s7.2.2.2, 0⟩])] rfl rfl (all1 (VRd.ntl (rd_extract rfl rfl)) all0) ?_
            refine dops_rdW [(low, [⟨36, 2, [.agg [.vs 1 (List.map (PV.int .u8) x5.1.Held), .int .i64 x5.1.Dropped]], 0⟩, ⟨36, 2, [.agg [.vs 1 (List.map (PV.int .u8) s7.2.2.1.Held), .int .i64 s7.2.2.1.Dropped]], 0⟩, ⟨24, 3, List.map T_Frame.enc s7.2.2.2, 0⟩]), (low, [⟨36, 2, [.agg [.vs 1 (List.map (PV.int .u8) x5.1.Held), .int .i64 x5.1.Dropped]], 0⟩, ⟨36, 2, [.agg [.vs 1 (List.map (PV.int .u8) x18.1.Held), .int .i64 x18.1.Dropped]], 0⟩, ⟨24, 3, List.map T_Frame.enc s7.2.2.2, 0⟩])] rfl rfl (all1 (VRd.ntl (rd_extract rfl rfl)) (all1 (VRd.ntl (rd_extract rfl rfl)) all0)) ?_
            refine dops_ef (M := (low, [⟨36, 2, [.agg [.vs 1 (List.map (PV.int .u8) x5.1.Held), .int .i64 x5.1.Dropped]], 0⟩, ⟨36, 2, [.agg [.vs 1 (List.map (PV.int .u8) s7.2.2.1.Held), .int .i64 s7.2.2.1.Dropped]], 0⟩, ⟨24, 3, List.map T_Frame.enc s7.2.2.2, 0⟩])) (M' := (low, [⟨36, 2, [.agg [.vs 1 (List.map (PV.int .u8) x5.1.Held), .int .i64 x5.1.Dropped]], 0⟩, ⟨36, 2, [.agg [.vs 1 (List.map (PV.int .u8) x18.1.Held), .int .i64 x18.1.Dropped]], 0⟩, ⟨24, 3, List.map T_Frame.enc s7.2.2.2, 0⟩])) rfl rfl rfl (vef_store (p := .agg [.vs 1 (List.map (PV.int .u8) x18.1.Held), .int .i64 x18.1.Dropped]) (e' := .agg [.vs 1 (List.map (PV.int .u8) x18.1.Held), .int .i64 x18.1.Dropped]) rfl (getO_N rfl rfl) rfl rfl ts_36 rfl (nt_ne rfl) rfl (Nat.le_of_ble_eq_true rfl) rfl (setO_N rfl rfl)) ?_
            refine dops_rdW [(low, [⟨36, 2, [.agg [.vs 1 (List.map (PV.int .u8) x5.1.Held), .int .i64 x5.1.Dropped]], 0⟩, ⟨36, 2, [.agg [.vs 1 (List.map (PV.int .u8) x18.1.Held), .int .i64 x18.1.Dropped]], 0⟩, ⟨24, 3, List.map T_Frame.enc s7.2.2.2, 0⟩])] rfl rfl (all1 (VRd.ntl (rd_asV rfl)) all0) ?_
            refine dops_nil ?_
            refine vwp_seq ?_
            refine vwp_region ?_
            obtain ⟨x20, h21, hF⟩ := bnd hF
            refine vops_rd (rd_mvL rfl) rfl ?_
            refine vops_rd (rd_mvV rfl) rfl ?_
            refine vops_efE (vef_apL (f := T_Frame.enc) (l := s7.2.2.2) (ys := x18.2) rfl rfl (getO_N rfl rfl) rfl (src_vs rfl) te_29 ts_24 tb_24 (by decide) tz_24 rfl h21 (setO_N rfl rfl)) rfl ?_
            refine vops_rd (rd_asL rfl) rfl ?_
            refine vops_nil ?_
            refine vwp_region ?_
            obtain ⟨x22, h23, hF⟩ := bnd hF
            refine vops_rd (rd_mvV rfl) rfl ?_
            refine vops_rd (rd_mvI rfl) rfl ?_
            refine vops_rd (rd_slV rfl te_22 ts_5 ⟨_, rfl⟩ rfl h23) rfl ?_
            refine vops_rd (rd_asV rfl) rfl ?_
            refine vops_nil ?_
            refine vwp_region ?_
            refine vops_rd (rd_mvI rfl) rfl ?_
            refine vops_rd (rd_add rfl rfl rfl) rfl ?_
            refine vops_rd (rd_asI rfl) rfl ?_
            refine vops_nil ?_
            obtain rfl := Option.some.inj hF
            refine onlyE ?_
            exact weak_pick rfl [(0, 0), (1, 0), (2, 0 + 1)] (by decide) ⟨rn_low rfl (.vs _ _), rn_low rfl (.vs _ _), rn_ptr 0 0 rfl rfl, rn_low rfl (.vs _ _), rn_ptr 1 1 rfl rfl, rn_sl 2 2 rfl rfl, rn_low rfl (.int _ _), trivial⟩ ⟨⟨_, rfl, rfl, .same _ _ _ _ (ltObj_es ⟨(lt_agg ⟨.vs _ _, .int _ _, trivial⟩), trivial⟩)⟩, ⟨_, rfl, rfl, .same _ _ _ _ (ltObj_es ⟨(lt_agg ⟨.vs _ _, .int _ _, trivial⟩), trivial⟩)⟩, ⟨_, rfl, rfl, .same _ _ _ _ (ltObj_map T_Frame.enc_lt)⟩, trivial⟩
      · have hF := bifF c9 hF
        refine vwp_exit ?_
        obtain rfl := Option.some.inj hF
        refine onlyE ?_
        exact weak_sub ⟨rfl, rfl, rfl, rfl, trivial⟩
    · rintro _ _ _ _ ⟨rfl, hw⟩
      refine ⟨_, _, _, hw, ?_⟩
      refine vwp_seq ?_
      refine vwp_region ?_
      rcases Bool.eq_false_or_eq_true ((strOfNums o8.1.Held).toList == (strOfNums x5.1.Held).toList) with c24 | c24
      · have hF := bifT c24 hF
        rcases Bool.eq_false_or_eq_true (decide (o8.1.Dropped = x5.1.Dropped)) with c25 | c25
        · have hF := bifT c25 hF
          obtain ⟨x26, h27, hF⟩ := bnd hF
          rcases Bool.eq_false_or_eq_true x26 with c28 | c28
          · have hF := bifT c28 hF
            rcases Bool.eq_false_or_eq_true (decide (((o8.1.Held).length : Int) < 70)) with c29 | c29
            · have hF := bifT c29 hF
              obtain ⟨x30, h31, hF⟩ := bnd hF
              refine vops_rd (rd_fieldAddr rfl tf_36_0 ts_22 (by decide)) rfl ?_
              refine vops_rd (rd_load1 rfl (getO_N rfl rfl) rfl ta_22 rfl) rfl ?_
              refine vops_rd (rd_str (xs := o8.1.Held) (src_vs rfl) te_22 ti_5 tst_9) rfl ?_
              refine vops_rd (rd_fieldAddr rfl tf_36_0 ts_22 (by decide)) rfl ?_
              refine vops_rd (rd_load1 rfl (getO_N rfl rfl) rfl ta_22 rfl) rfl ?_
              refine vops_rd (rd_str (xs := x5.1.Held) (src_vs rfl) te_22 ti_5 tst_9) rfl ?_
              refine vops_rd (rd_eqlS rfl rfl) rfl ?_
              refine vops_rd (rd_mvB rfl) rfl ?_
              refine vops_take rfl (congrArg PV.bool c24) ?_
              refine vops_rd (rd_fieldAddr rfl tf_36_1 ts_3 (by decide)) rfl ?_
              refine vops_take rfl (congrArg PV.bool c24) ?_
              refine vops_rd (rd_load1 rfl (getO_N rfl rfl) rfl ta_3 rfl) rfl ?_
              refine vops_take rfl (congrArg PV.bool c24) ?_
              refine vops_rd (rd_fieldAddr rfl tf_36_1 ts_3 (by decide)) rfl ?_
              refine vops_take rfl (congrArg PV.bool c24) ?_
              refine vops_rd (rd_load1 rfl (getO_N rfl rfl) rfl ta_3 rfl) rfl ?_
              refine vops_take rfl (congrArg PV.bool c24) ?_
              refine vops_rd (rd_eql rfl rfl) rfl ?_
              refine vops_rd (rd_pickT (congrArg PV.bool c24) rfl) rfl ?_
              refine vops_rd (rd_mvB rfl) rfl ?_
              refine vops_take rfl (congrArg PV.bool c25) ?_
              refine vops_rd (rd_mvL rfl) rfl ?_
              refine vops_take rfl (congrArg PV.bool c25) ?_
              refine vops_rd (rd_mvV rfl) rfl ?_
              refine vops_take rfl (congrArg PV.bool c25) ?_
              refine vops_efE (vef_callB (vs := [.vs 3 (List.map T_Frame.enc o8.2), .vs 3 (List.map T_Frame.enc x5.2)]) rfl Try.call20 ⟨view_sl rfl (getO_N rfl rfl) rfl rfl (lt_map T_Frame.enc_lt) (full_take rfl), view_same rfl (.vs _ _), trivial⟩ ((F_ref04_Same_ok h27 []).mono fun _ _ h => h.1) (.bool _)) rfl ?_
              refine vops_rd (rd_pickT (congrArg PV.bool c25) rfl) rfl ?_
              refine vops_rd (rd_mvB rfl) rfl ?_
              refine vops_take rfl (congrArg PV.bool c28) ?_
              refine vops_rd (rd_fieldAddr rfl tf_36_0 ts_22 (by decide)) rfl ?_
              refine vops_take rfl (congrArg PV.bool c28) ?_
              refine vops_rd (rd_load1 rfl (getO_N rfl rfl) rfl ta_22 rfl) rfl ?_
              refine vops_take rfl (congrArg PV.bool c28) ?_
              refine vops_rd (rd_to (rd_lenV rfl rfl te_22) (congrArg (fun n : Nat => PV.int .i64 (n : Int)) (List.length_map _))) rfl ?_
              refine vops_take rfl (congrArg PV.bool c28) ?_
              refine vops_rd (rd_lss rfl rfl) rfl ?_
              refine vops_rd (rd_pickT (congrArg PV.bool c28) rfl) rfl ?_
              refine vops_rd (rd_mvB rfl) rfl ?_
              refine vops_take rfl (congrArg PV.bool c29) ?_
              refine vops_efE (vef_callP rfl Try.call9 (F_law04_awake_ok h31 _)) rfl ?_
              refine vops_rd (rd_pickT (congrArg PV.bool c29) rfl) rfl ?_
              refine vops_rd (rd_asB rfl) rfl ?_
              refine vops_nil ?_
              refine vwp_ret ?_
              obtain rfl := Option.some.inj hF
              refine fnR ?_
              exact weak_pick rfl [] (by decide) ⟨rn_low rfl (.bool _), trivial⟩ trivial
            · have hF := bifF c29 hF
              refine vops_rd (rd_fieldAddr rfl tf_36_0 ts_22 (by decide)) rfl ?_
              refine vops_rd (rd_load1 rfl (getO_N rfl rfl) rfl ta_22 rfl) rfl ?_
              refine vops_rd (rd_str (xs := o8.1.Held) (src_vs rfl) te_22 ti_5 tst_9) rfl ?_
              refine vops_rd (rd_fieldAddr rfl tf_36_0 ts_22 (by decide)) rfl ?_
              refine vops_rd (rd_load1 rfl (getO_N rfl rfl) rfl ta_22 rfl) rfl ?_
              refine vops_rd (rd_str (xs := x5.1.Held) (src_vs rfl) te_22 ti_5 tst_9) rfl ?_
              refine vops_rd (rd_eqlS rfl rfl) rfl ?_
              refine vops_rd (rd_mvB rfl) rfl ?_
              refine vops_take rfl (congrArg PV.bool c24) ?_
              refine vops_rd (rd_fieldAddr rfl tf_36_1 ts_3 (by decide)) rfl ?_
              refine vops_take rfl (congrArg PV.bool c24) ?_
              refine vops_rd (rd_load1 rfl (getO_N rfl rfl) rfl ta_3 rfl) rfl ?_
              refine vops_take rfl (congrArg PV.bool c24) ?_
              refine vops_rd (rd_fieldAddr rfl tf_36_1 ts_3 (by decide)) rfl ?_
              refine vops_take rfl (congrArg PV.bool c24) ?_
              refine vops_rd (rd_load1 rfl (getO_N rfl rfl) rfl ta_3 rfl) rfl ?_
              refine vops_take rfl (congrArg PV.bool c24) ?_
              refine vops_rd (rd_eql rfl rfl) rfl ?_
              refine vops_rd (rd_pickT (congrArg PV.bool c24) rfl) rfl ?_
              refine vops_rd (rd_mvB rfl) rfl ?_
              refine vops_take rfl (congrArg PV.bool c25) ?_
              refine vops_rd (rd_mvL rfl) rfl ?_
              refine vops_take rfl (congrArg PV.bool c25) ?_
              refine vops_rd (rd_mvV rfl) rfl ?_
              refine vops_take rfl (congrArg PV.bool c25) ?_
              refine vops_efE (vef_callB (vs := [.vs 3 (List.map T_Frame.enc o8.2), .vs 3 (List.map T_Frame.enc x5.2)]) rfl Try.call20 ⟨view_sl rfl (getO_N rfl rfl) rfl rfl (lt_map T_Frame.enc_lt) (full_take rfl), view_same rfl (.vs _ _), trivial⟩ ((F_ref04_Same_ok h27 []).mono fun _ _ h => h.1) (.bool _)) rfl ?_
              refine vops_rd (rd_pickT (congrArg PV.bool c25) rfl) rfl ?_
              refine vops_rd (rd_mvB rfl) rfl ?_
              refine vops_take rfl (congrArg PV.bool c28) ?_
              refine vops_rd (rd_fieldAddr rfl tf_36_0 ts_22 (by decide)) rfl ?_
              refine vops_take rfl (congrArg PV.bool c28) ?_
              refine vops_rd (rd_load1 rfl (getO_N rfl rfl) rfl ta_22 rfl) rfl ?_
              refine vops_take rfl (congrArg PV.bool c28) ?_
              refine vops_rd (rd_to (rd_lenV rfl rfl te_22) (congrArg (fun n : Nat => PV.int .i64 (n : Int)) (List.length_map _))) rfl ?_
              refine vops_take rfl (congrArg PV.bool c28) ?_
              refine vops_rd (rd_lss rfl rfl) rfl ?_
              refine vops_rd (rd_pickT (congrArg PV.bool c28) rfl) rfl ?_
              refine vops_rd (rd_mvB rfl) rfl ?_
              refine vops_skip rfl rfl (neF c29) rfl ?_
              refine vops_rd (rd_pickF (congrArg PV.bool c29) rfl) rfl ?_
              refine vops_rd (rd_asB rfl) rfl ?_
              refine vops_nil ?_
              refine vwp_ret ?_
              obtain rfl := Option.some.inj hF
              refine fnR ?_
              exact weak_pick rfl [] (by decide) ⟨rn_low rfl (.bool _), trivial⟩ trivial
          · have hF := bifF c28 hF
            refine vops_rd (rd_fieldAddr rfl tf_36_0 ts_22 (by decide)) rfl ?_
            refine vops_rd (rd_load1 rfl (getO_N rfl rfl) rfl ta_22 rfl) rfl ?_
            refine vops_rd (rd_str (xs := o8.1.Held) (src_vs rfl) te_22 ti_5 tst_9) rfl ?_
            refine vops_rd (rd_fieldAddr rfl tf_36_0 ts_22 (by decide)) rfl ?_
            refine vops_rd (rd_load1 rfl (getO_N rfl rfl) rfl ta_22 rfl) rfl ?_
            refine vops_rd (rd_str (xs := x5.1.Held) (src_vs rfl) te_22 ti_5 tst_9) rfl ?_
            refine vops_rd (rd_eqlS rfl rfl) rfl ?_
            refine vops_rd (rd_mvB rfl) rfl ?_
            refine vops_take rfl (congrArg PV.bool c24) ?_
            refine vops_rd (rd_fieldAddr rfl tf_36_1 ts_3 (by decide)) rfl ?_
            refine vops_take rfl (congrArg PV.bool c24) ?_
            refine vops_rd (rd_load1 rfl (getO_N rfl rfl) rfl ta_3 rfl) rfl ?_
            refine vops_take rfl (congrArg PV.bool c24) ?_
            refine vops_rd (rd_fieldAddr rfl tf_36_1 ts_3 (by decide)) rfl ?_
            refine vops_take rfl (congrArg PV.bool c24) ?_
            refine vops_rd (rd_load1 rfl (getO_N rfl rfl) rfl ta_3 rfl) rfl ?_
            refine vops_take rfl (congrArg PV.bool c24) ?_
            refine vops_rd (rd_eql rfl rfl) rfl ?_
            refine vops_rd (rd_pickT (congrArg PV.bool c24) rfl) rfl ?_
            refine vops_rd (rd_mvB rfl) rfl ?_
            refine vops_take rfl (congrArg PV.bool c25) ?_
            refine vops_rd (rd_mvL rfl) rfl ?_
            refine vops_take rfl (congrArg PV.bool c25) ?_
            refine vops_rd (rd_mvV rfl) rfl ?_
            refine vops_take rfl (congrArg PV.bool c25) ?_
            refine vops_efE (vef_callB (vs := [.vs 3 (List.map T_Frame.enc o8.2), .vs 3 (List.map T_Frame.enc x5.2)]) rfl Try.call20 ⟨view_sl rfl (getO_N rfl rfl) rfl rfl (lt_map T_Frame.enc_lt) (full_take rfl), view_same rfl (.vs _ _), trivial⟩ ((F_ref04_Same_ok h27 []).mono fun _ _ h => h.1) (.bool _)) rfl ?_
            refine vops_rd (rd_pickT (congrArg PV.bool c25) rfl) rfl ?_
            refine vops_rd (rd_mvB rfl) rfl ?_
            refine vops_skip rfl rfl (neF c28) rfl ?_
            refine vops_skip rfl rfl (neF c28) rfl ?_
            refine vops_skip rfl rfl (neF c28) rfl ?_
            refine vops_skip rfl rfl (neF c28) rfl ?_
            refine vops_rd (rd_pickF (congrArg PV.bool c28) rfl) rfl ?_
            refine vops_rd (rd_mvB rfl) rfl ?_
            refine vops_skip rfl rfl (by decide) rfl ?_
            refine vops_rd (rd_pickF rfl rfl) rfl ?_
            refine vops_rd (rd_asB rfl) rfl ?_
            refine vops_nil ?_
            refine vwp_ret ?_
            obtain rfl := Option.some.inj hF
            refine fnR ?_
            exact weak_pick rfl [] (by decide) ⟨rn_low rfl (.bool _), trivial⟩ trivial
        · have hF := bifF c25 hF
          refine vops_rd (rd_fieldAddr rfl tf_36_0 ts_22 (by decide)) rfl ?_
          refine vops_rd (rd_load1 rfl (getO_N rfl rfl) rfl ta_22 rfl) rfl ?_
          refine vops_rd (rd_str (xs := o8.1.Held) (src_vs rfl) te_22 ti_5 tst_9) rfl ?_
          refine vops_rd (rd_fieldAddr rfl tf_36_0 ts_22 (by decide)) rfl ?_
          refine vops_rd (rd_load1 rfl (getO_N rfl rfl) rfl ta_22 rfl) rfl ?_
          refine vops_rd (rd_str (xs := x5.1.Held) (src_vs rfl) te_22 ti_5 tst_9) rfl ?_
          refine vops_rd (rd_eqlS rfl rfl) rfl ?_
          refine vops_rd (rd_mvB rfl) rfl ?_
          refine vops_take rfl (congrArg PV.bool c24) ?_
          refine vops_rd (rd_fieldAddr rfl tf_36_1 ts_3 (by decide)) rfl ?_
          refine vops_take rfl (congrArg PV.bool c24) ?_
          refine vops_rd (rd_load1 rfl (getO_N rfl rfl) rfl ta_3 rfl) rfl ?_
          refine vops_take rfl (congrArg PV.bool c24) ?_
          refine vops_rd (rd_fieldAddr rfl tf_36_1 ts_3 (by decide)) rfl ?_
          refine vops_take rfl (congrArg PV.bool c24) ?_
          refine vops_rd (rd_load1 rfl (getO_N rfl rfl) rfl ta_3 rfl) rfl ?_
          refine vops_take rfl (congrArg PV.bool c24) ?_
          refine vops_rd (rd_eql rfl rfl) rfl ?_
          refine vops_rd (rd_pickT (congrArg PV.bool c24) rfl) rfl ?_
          refine vops_rd (rd_mvB rfl) rfl ?_
          refine vops_skip rfl rfl (neF c25) rfl ?_
          refine vops_skip rfl rfl (neF c25) rfl ?_
          refine vops_skip rfl rfl (neF c25) rfl ?_
          refine vops_rd (rd_pickF (congrArg PV.bool c25) rfl) rfl ?_
          refine vops_rd (rd_mvB rfl) rfl ?_
          refine vops_skip rfl rfl (by decide) rfl ?_
          refine vops_skip rfl rfl (by decide) rfl ?_
          refine vops_skip rfl rfl (by decide) rfl ?_
          refine vops_skip rfl rfl (by decide) rfl ?_
          refine vops_rd (rd_pickF rfl rfl) rfl ?_
          refine vops_rd (rd_mvB rfl) rfl ?_
          refine vops_skip rfl rfl (by decide) rfl ?_
          refine vops_rd (rd_pickF rfl rfl) rfl ?_
          refine vops_rd (rd_asB rfl) rfl ?_
          refine vops_nil ?_
          refine vwp_ret ?_
          obtain rfl := Option.some.inj hF
          refine fnR ?_
          exact weak_pick rfl [] (by decide) ⟨rn_low rfl (.bool _), trivial⟩ trivial
      · have hF := bifF c24 hF
        refine vops_rd (rd_fieldAddr rfl tf_36_0 ts_22 (by decide)) rfl ?_
        refine vops_rd (rd_load1 rfl (getO_N rfl rfl) rfl ta_22 rfl) rfl ?_
        refine vops_rd (rd_str (xs := o8.1.Held) (src_vs rfl) te_22 ti_5 tst_9) rfl ?_
        refine vops_rd (rd_fieldAddr rfl tf_36_0 ts_22 (by decide)) rfl ?_
        refine vops_rd (rd_load1 rfl (getO_N rfl rfl) rfl ta_22 rfl) rfl ?_
        refine vops_rd (rd_str (xs := x5.1.Held) (src_vs rfl) te_22 ti_5 tst_9) rfl ?_
        refine vops_rd (rd_eqlS rfl rfl) rfl ?_
        refine vops_rd (rd_mvB rfl) rfl ?_
        refine vops_skip rfl rfl (neF c24) rfl ?_
        refine vops_skip rfl rfl (neF c24) rfl ?_
        refine vops_skip rfl rfl (neF c24) rfl ?_
        refine vops_skip rfl rfl (neF c24) rfl ?_
        refine vops_skip rfl rfl (neF c24) rfl ?_
        refine vops_rd (rd_pickF (congrArg PV.bool c24) rfl) rfl ?_
        refine vops_rd (rd_mvB rfl) rfl ?_
        refine vops_skip rfl rfl (by decide) rfl ?_
        refine vops_skip rfl rfl (by decide) rfl ?_
        refine vops_skip rfl rfl (by decide) rfl ?_
        refine vops_rd (rd_pickF rfl rfl) rfl ?_
        refine vops_rd (rd_mvB rfl) rfl ?_
        refine vops_skip rfl rfl (by decide) rfl ?_
        refine vops_skip rfl rfl (by decide) rfl ?_
        refine vops_skip rfl rfl (by decide) rfl ?_
        refine vops_skip rfl rfl (by decide) rfl ?_
        refine vops_rd (rd_pickF rfl rfl) rfl ?_
        refine vops_rd (rd_mvB rfl) rfl ?_
        refine vops_skip rfl rfl (by decide) rfl ?_
        refine vops_rd (rd_pickF rfl rfl) rfl ?_
        refine vops_rd (rd_asB rfl) rfl ?_
        refine vops_nil ?_
        refine vwp_ret ?_
        obtain rfl := Option.some.inj hF
        refine fnR ?_
        exact weak_pick rfl [] (by decide) ⟨rn_low rfl (.bool _), trivial⟩ trivial
  · rintro _ _ _ _ ⟨he, hw⟩
    refine ⟨_, _, _, hw, ?_⟩
    exact bodyQ_pure he [.bool r] ⟨rfl, trivial⟩ (.bool _) ⟨rfl, rfl⟩

theorem F_law04_TelegramBack_ok {p0 : List Int} {p1 : List Int} {r : Bool} (hF : F_law04_TelegramBack p0 p1 = some r) (low : List AObj) :
    VCalls Try.prog 6 [.vs 1 (List.map (PV.int .u8) p0), .vs 1 (List.map (PV.int .u8) p1)] low fun x low' => x = .bool r ∧ low' = low := by
  refine vcalls_of_body (nt := 120) (rs := [.tmp 4]) Try.func6 rfl rfl (Nat.le_of_ble_eq_true rfl) rfl ?_
  refine vwp_monoW (Q' := FnE (fun E' lw lc => Weak E' lw lc [(4, .bool r)] low [])) ?_ ?_
  · unfold F_law04_TelegramBack at hF
    refine vwp_seq ?_
    refine vwp_region ?_
    refine vops_rd (rd_asB rfl) rfl ?_
    refine vops_nil ?_
    refine vwp_seq ?_
    refine vwp_seq ?_
    refine vwp_region ?_
    refine vops_rd (rd_mvV rfl) rfl ?_
    refine vops_rd (rd_to (rd_lenV rfl rfl te_22) (congrArg (fun n : Nat => PV.int .i64 (n : Int)) (List.length_map _))) rfl ?_
    refine vops_rd (rd_gtr rfl rfl) rfl ?_
    refine vops_nil ?_
    refine vwp_cond rfl (fun c1 => ?_) (fun c1 => ?_)
    · have hF := bifT c1 hF
      refine vwp_seq ?_
      refine vwp_region ?_
      obtain ⟨x2, h3, hF⟩ := bnd hF
      refine vops_efE (vef_callP rfl Try.call9 (F_law04_awake_ok h3 _)) rfl ?_
      refine vops_rd (rd_asB rfl) rfl ?_
      refine vops_nil ?_
      refine vwp_ret ?_
      obtain rfl := Option.some.inj hF
      refine fnR ?_
      exact weak_sub ⟨rfl, trivial⟩
    · have hF := bifF c1 hF
      refine vwp_skip ?_
      refine vwp_seq ?_
      refine vwp_region ?_
      obtain ⟨x4, h5, hF⟩ := bnd hF
      refine vops_rd (rd_mvV rfl) rfl ?_
      refine vops_efE (vef_callN (r := .ptr (low.length + 0) 0 0 0) (os := [⟨48, 2, [.agg [.vs 1 (List.map (PV.int .u8) x4.l), .int .i64 x4.at_]], 0⟩]) rfl Try.call10 (F_draw_New_ok h5 _ (len_app rfl rfl))) rfl ?_
      refine vops_rd (rd_asP rfl) rfl ?_
      refine vops_nil ?_
      refine vwp_seq ?_
      refine vwp_region ?_
      refine vops_efE (vef_nilsN rfl rfl 5 1 (Nat.succ_pos _) (rd_asN rfl)) rfl ?_
      refine vops_nil ?_
      refine vwp_seq ?_
      refine vwp_region ?_
      refine vops_efE (vef_nilsN rfl rfl 24 3 (Nat.succ_pos _) (rd_asN rfl)) rfl ?_
      refine vops_nil ?_
      refine vwp_seq ?_
      refine vwp_seq ?_
      refine vwp_region ?_
      obtain ⟨x6, h7, hF⟩ := bnd hF
      refine vops_rd (rd_mvP rfl) rfl ?_
      refine vops_efE (vef_callMN (k := 0) (loc1 := [⟨48, 2, [.agg [.vs 1 (List.map (PV.int .u8) x6.1.l), .int .i64 x6.1.at_]], 0⟩, ⟨5, 1, List.map (PV.int .u8) ([] : List Int), 0⟩, ⟨24, 3, List.map T_Frame.enc ([] : List T_Frame), 0⟩]) rfl rfl Try.call21 (F_draw_Codes_Next_ok h7 (get_N rfl rfl)) rfl) rfl ?_
      refine vops_rd (rd_asI rfl) rfl ?_
      refine vops_nil ?_
      refine vwp_block ?_
      obtain ⟨o9, ho9, hF⟩ := bnd hF
      refine vwp_monoW (vwp_loopC F_law04_TelegramBack_L1 (fun s8 E' lw lc => Weak E' lw lc [(1, .vs 1 (List.map (PV.int .u8) p1)), (5, .ptr (low.length + 0) 0 0 0), (6, .sl (low.length + 1) 0 0 (s8.2.2.1).length), (7, .sl (low.length + 2) 0 0 (s8.2.2.2).length), (8, .int .i64 s8.1)] low [⟨48, 2, [.agg [.vs 1 (List.map (PV.int .u8) s8.2.1.l), .int .i64 s8.2.1.at_]], 0⟩, ⟨5, 1, List.map (PV.int .u8) s8.2.2.1, 0⟩, ⟨24, 3, List.map T_Frame.enc s8.2.2.2, 0⟩]) (Sum.elim (fun j10 => OnlyE .ret (fun E' lw lc => Weak E' lw lc [(4, .bool false)] low [])) (fun j11 => OnlyE (.exit 0) (fun E' lw lc => Weak E' lw lc [(1, .vs 1 (List.map (PV.int .u8) p1)), (6, .sl (low.length + 0) 0 0 (j11.1).length), (7, .sl (low.length + 1) 0 0 (j11.2).length)] low [⟨5, 1, List.map (PV.int .u8) j11.1, 0⟩, ⟨24, 3, List.map T_Frame.enc j11.2, 0⟩]))) ho9 ?_ (by rintro (_|_) _ _ _ ⟨h, _⟩ <;> cases h) ?_) ?_
      · exact weak_sub ⟨rfl, rfl, rfl, rfl, rfl, trivial⟩
      · rintro s8 os8 _ _ _ hF hw
        unfold F_law04_TelegramBack_L1 at hF
        refine vwp_weak hw ?_
        refine vwp_seq ?_
        refine vwp_seq ?_
        refine vwp_region ?_
        refine vops_rd (rd_mvI rfl) rfl ?_
        refine vops_rd (rd_gtr rfl rfl) rfl ?_
        refine vops_nil ?_
        refine vwp_cond rfl (fun c12 => ?_) (fun c12 => ?_)
        · have hF := bifT c12 hF
          refine vwp_skip ?_
          refine vwp_seq ?_
          refine vwp_block ?_
          refine vwp_seq ?_
          refine vwp_region ?_
          obtain ⟨x13, h14, hF⟩ := bnd hF
          refine vops_rd (rd_mvP rfl) rfl ?_
          refine vops_efE (vef_callMN (k := 0) (loc1 := [⟨48, 2, [.agg [.vs 1 (List.map (PV.int .u8) x13.1.l), .int .i64 x13.1.at_]], 0⟩, ⟨5, 1, List.map (PV.int .u8) s8.2.2.1, 0⟩, ⟨24, 3, List.map T_Frame.enc s8.2.2.2, 0⟩]) rfl rfl Try.call11 (F_draw_Codes_Frame_ok h14 (get_N rfl rfl)) rfl) rfl ?_
          refine vops_efE (vef_allocN rfl rfl tz_24 rfl rfl (Nat.succ_pos _) rfl) rfl ?_
          refine vops_efE (vef_store (p := .agg [.int .i64 x13.2.Address, .int .i64 x13.2.Kind, .vs 1 (List.map (PV.int .u8) x13.2.Data)]) (e' := .agg [.int .i64 x13.2.Address, .int .i64 x13.2.Kind, .vs 1 (List.map (PV.int .u8) x13.2.Data)]) rfl (getO_N rfl rfl) rfl rfl ts_24 rfl (nt_ne rfl) rfl (Nat.le_of_ble_eq_true rfl) rfl (setO_N rfl rfl)) rfl ?_
          refine vops_nil ?_
          refine vwp_seq ?_
          refine vwp_region ?_
          obtain ⟨x15, h16, hF⟩ := bnd hF
          refine vops_rd (rd_loadN (ds := [.int .i64 x13.2.Address, .int .i64 x13.2.Kind, .vs 1 (List.map (PV.int .u8) x13.2.Data)]) rfl (getO_N rfl rfl) rfl ta_24 ts_24 rfl rfl rfl) rfl ?_
          refine vops_efE (vef_callP rfl Try.call12 (F_telegram_Write_ok h16 _)) rfl ?_
          refine vops_rd (rd_mvT rfl) rfl ?_
          refine vops_rd (rd_extract rfl rfl) rfl ?_
          refine vops_rd (rd_extract rfl rfl) rfl ?_
          refine vops_rd (rd_asV rfl) rfl ?_
          refine vops_rd (rd_asI rfl) rfl ?_
          refine vops_nil ?_
          refine vwp_seq ?_
          refine vwp_seq ?_
          refine vwp_region ?_
          refine vops_rd (rd_mvI rfl) rfl ?_
          refine vops_rd (rd_neq rfl rfl) rfl ?_
          refine vops_nil ?_
          refine vwp_cond rfl (fun c17 => ?_) (fun c17 => ?_)
          · have hF := bifT c17 hF
            refine vwp_seq ?_
            refine vwp_region ?_
            refine vops_rd (rd_asB rfl) rfl ?_
            refine vops_nil ?_
            refine vwp_ret ?_
            obtain rfl := Option.some.inj hF
            refine onlyE ?_
            exact weak_pick rfl [] (by decide) ⟨rn_low rfl (.bool _), trivial⟩ trivial
          · have hF := bifF c17 hF
            refine vwp_skip ?_
            obtain ⟨x18, h19, hF⟩ := bnd hF
            obtain ⟨x20, h21, hF⟩ := bnd hF
            refine vwp_drawn [[], [], [0, 1], [], [], [4], [0, 1, 2, 3, 4, 5], [0, 1, 2, 3, 4, 5, 6], [0, 1, 2, 3, 4, 5, 6, 7]] [false, false, true, false, false, false, true, false, false] [(low, [⟨48, 2, [.agg [.vs 1 (List.map (PV.int .u8) x13.1.l), .int .i64 x13.1.at_]], 0⟩, ⟨5, 1, List.map (PV.int .u8) s8.2.2.1, 0⟩, ⟨24, 3, List.map T_Frame.enc s8.2.2.2, 0⟩, ⟨24, 3, [.agg [.int .i64 x13.2.Address, .int .i64 x13.2.Kind, .vs 1 (List.map (PV.int .u8) x13.2.Data)]], 0⟩]), (low, [⟨48, 2, [.agg [.vs 1 (List.map (PV.int .u8) x13.1.l), .int .i64 x13.1.at_]], 0⟩, ⟨5, 1, List.map (PV.int .u8) x18, 0 + 1⟩, ⟨24, 3, List.map T_Frame.enc s8.2.2.2, 0⟩, ⟨24, 3, [.agg [.int .i64 x13.2.Address, .int .i64 x13.2.Kind, .vs 1 (List.map (PV.int .u8) x13.2.Data)]], 0⟩]), (low, [⟨48, 2, [.agg [.vs 1 (List.map (PV.int .u8) x13.1.l), .int .i64 x13.1.at_]], 0⟩, ⟨5, 1, List.map (PV.int .u8) x18, 0 + 1⟩, ⟨24, 3, List.map T_Frame.enc x20, 0 + 1⟩, ⟨24, 3, [.agg [.int .i64 x13.2.Address, .int .i64 x13.2.Kind, .vs 1 (List.map (PV.int .u8) x13.2.Data)]], 0⟩])] mixed (by kernel_rfl) rfl (lenAll (all1 rfl (all1 rfl (all1 rfl all0)))) rfl (low, [⟨48, 2, [.agg [.vs 1 (List.map (PV.int .u8) x13.1.l), .int .i64 x13.1.at_]], 0⟩, ⟨5, 1, List.map (PV.int .u8) x18, 0 + 1⟩, ⟨24, 3, List.map T_Frame.enc x20, 0 + 1⟩, ⟨24, 3, [.agg [.int .i64 x13.2.Address, .int .i64 x13.2.Kind, .vs 1 (List.map (PV.int .u8) x13.2.Data)]], 0⟩]) rfl rfl ?_
            refine dops_rdW [(low, [⟨48, 2, [.agg [.vs 1 (List.map (PV.int .u8) x13.1.l), .int .i64 x13.1.at_]], 0⟩, ⟨5, 1, List.map (PV.int .u8) s8.2.2.1, 0⟩, ⟨24, 3, List.map T_Frame.enc s8.2.2.2, 0⟩, ⟨24, 3, [.agg [.int .i64 x13.2.Address, .int .i64 x13.2.Kind, .vs 1 (List.map (PV.int .u8) x13.2.Data)]], 0⟩])] rfl rfl (all1 (VRd.ntl (rd_mvL rfl)) all0) ?_
            refine dops_rdW [(low, [⟨48, 2, [.agg [.vs 1 (List.map (PV.int .u8) x13.1.l), .int .i64 x13.1.at_]], 0⟩, ⟨5, 1, List.map (PV.int .u8) s8.2.2.1, 0⟩, ⟨24, 3, List.map T_Frame.enc s8.2.2.2, 0⟩, ⟨24, 3, [.agg [.int .i64 x13.2.Address, .int .i64 x13.2.Kind, .vs 1 (List.map (PV.int .u8) x13.2.Data)]], 0⟩])] rfl rfl (all1 (VRd.ntl (rd_mvV rfl)) all0) ?_
            refine dops_ef (M := (low, [⟨48, 2, [.agg [.vs 1 (List.map (PV.int .u8) x13.1.l), .int .i64 x13.1.at_]], 0⟩, ⟨5, 1, List.map (PV.int .u8) s8.2.2.1, 0⟩, ⟨24, 3, List.map T_Frame.enc s8.2.2.2, 0⟩, ⟨24, 3, [.agg [.int .i64 x13.2.Address, .int .i64 x13.2.Kind, .vs 1 (List.map (PV.int .u8) x13.2.Data)]], 0⟩])) (M' := (low, [⟨48, 2, [.agg [.vs 1 (List.map (PV.int .u8) x13.1.l), .int .i64 x13.1.at_]], 0⟩, ⟨5, 1, List.map (PV.int .u8) x18, 0 + 1⟩, ⟨24, 3, List.map T_Frame.enc s8.2.2.2, 0⟩, ⟨24, 3, [.agg [.int .i64 x13.2.Address, .int .i64 x13.2.Kind, .vs 1 (List.map (PV.int .u8) x13.2.Data)]], 0⟩])) rfl rfl rfl (vef_apL (f := (PV.int .u8)) (l := s8.2.2.1) (ys := x15.1) rfl rfl (getO_N rfl rfl) rfl (src_vs rfl) te_22 ts_5 tb_5 (by decide) tz_5 rfl h19 (setO_N rfl rfl)) ?_
            refine dops_rdW [(low, [⟨48, 2, [.agg [.vs 1 (List.map (PV.int .u8) x13.1.l), .int .i64 x13.1.at_]], 0⟩, ⟨5, 1, List.map (PV.int .u8) s8.2.2.1, 0⟩, ⟨24, 3, List.map T_Frame.enc s8.2.2.2, 0⟩, ⟨24, 3, [.agg [.int .i64 x13.2.Address, .int .i64 x13.2.Kind, .vs 1 (List.map (PV.int .u8) x13.2.Data)]], 0⟩]), (low, [⟨48, 2, [.agg [.vs 1 (List.map (PV.int .u8) x13.1.l), .int .i64 x13.1.at_]], 0⟩, ⟨5, 1, List.map (PV.int .u8) x18, 0 + 1⟩, ⟨24, 3, List.map T_Frame.enc s8.2.2.2, 0⟩, ⟨24, 3, [.agg [.int .i64 x13.2.Address, .int .i64 x13.2.Kind, .vs 1 (List.map (PV.int .u8) x13.2.Data)]], 0⟩])] rfl rfl (all1 (VRd.ntl (rd_mvL rfl)) (all1 (VRd.ntl (rd_mvL rfl)) all0)) ?_
            refine dops_rdW [(low, [⟨48, 2, [.agg [.vs 1 (List.map (PV.int .u8) x13.1.l), .int .i64 x13.1.at_]], 0⟩, ⟨5, 1, List.map (PV.int .u8) s8.2.2.1, 0⟩, ⟨24, 3, List.map T_Frame.enc s8.2.2.2, 0⟩, ⟨24, 3, [.agg [.int .i64 x13.2.Address, .int .i64 x13.2.Kind, .vs 1 (List.map (PV.int .u8) x13.2.Data)]], 0⟩]), (low, [⟨48, 2, [.agg [.vs 1 (List.map (PV.int .u8) x13.1.l), .int .i64 x13.1.at_]], 0⟩, ⟨5, 1, List.map (PV.int .u8) x18, 0 + 1⟩, ⟨24, 3, List.map T_Frame.enc s8.2.2.2, 0⟩, ⟨24, 3, [.agg [.int .i64 x13.2.Address, .int .i64 x13.2.Kind, .vs 1 (List.map (PV.int .u8) x13.2.Data)]], 0⟩])] rfl rfl (all1 (VRd.ntl (rd_loadN (ds := [.int .i64 x13.2.Address, .int .i64 x13.2.Kind, .vs 1 (List.map (PV.int .u8) x13.2.Data)]) rfl (getO_N rfl rfl) rfl ta_24 ts_24 rfl rfl rfl)) (all1 (VRd.ntl (rd_loadN (ds := [.int .i64 x13.2.Address, .int .i64 x13.2.Kind, .vs 1 (List.map (PV.int .u8) x13.2.Data)]) rfl (getO_N rfl rfl) rfl ta_24 ts_24 rfl rfl rfl)) all0)) ?_
            refine dops_rdW [(low, [⟨48, 2, [.agg [.vs 1 (List.map (PV.int .u8) x13.1.l), .int .i64 x13.1.at_]], 0⟩, ⟨5, 1, List.map (PV.int .u8) s8.2.2.1, 0⟩, ⟨24, 3, List.map T_Frame.enc s8.2.2.2, 0⟩, ⟨24, 3, [.agg [.int .i64 x13.2.Address, .int .i64 x13.2.Kind, .vs 1 (List.map (PV.int .u8) x13.2.Data)]], 0⟩]), (low, [⟨48, 2, [.agg [.vs 1 (List.map (PV.int .u8) x13.1.l), .int .i64 x13.1.at_]], 0⟩, ⟨5, 1, List.map (PV.int .u8) x18, 0 + 1⟩, ⟨24, 3, List.map T_Frame.enc s8.2.2.2, 0⟩, ⟨24, 3, [.agg [.int .i64 x13.2.Address, .int .i64 x13.2.Kind, .vs 1 (List.map (PV.int .u8) x13.2.Data)]], 0⟩])] rfl rfl (all1 (nt_of (vef_litF (es := List.map T_Frame.enc [x13.2]) ⟨rfl, rfl, trivial⟩ rfl rfl (nt_all rfl) te_29 ts_24 tz_24 rfl rfl (Nat.succ_pos _) (by decide) (lt_map T_Frame.enc_lt))) (all1 (nt_of (vef_litF (es := List.map T_Frame.enc [x13.2]) ⟨rfl, rfl, trivial⟩ rfl rfl (nt_all rfl) te_29 ts_24 tz_24 rfl rfl (Nat.succ_pos _) (by decide) (lt_map T_Frame.enc_lt))) all0)) ?_
            refine dops_ef (M := (low, [⟨48, 2, [.agg [.vs 1 (List.map (PV.int .u8) x13.1.l), .int .i64 x13.1.at_]], 0⟩, ⟨5, 1, List.map (PV.int .u8) x18, 0 + 1⟩, ⟨24, 3, List.map T_Frame.enc s8.2.2.2, 0⟩, ⟨24, 3, [.agg [.int .i64 x13.2.Address, .int .i64 x13.2.Kind, .vs 1 (List.map (PV.int .u8) x13.2.Data)]], 0⟩])) (M' := (low, [⟨48, 2, [.agg [.vs 1 (List.map (PV.int .u8) x13.1.l), .int .i64 x13.1.at_]], 0⟩, ⟨5, 1, List.map (PV.int .u8) x18, 0 + 1⟩, ⟨24, 3, List.map T_Frame.enc x20, 0 + 1⟩, ⟨24, 3, [.agg [.int .i64 x13.2.Address, .int .i64 x13.2.Kind, .vs 1 (List.map (PV.int .u8) x13.2.Data)]], 0⟩])) rfl rfl rfl (vef_apL (f := T_Frame.enc) (l := s8.2.2.2) (ys := [x13.2]) rfl rfl (getO_N rfl rfl) rfl (src_vs rfl) te_29 ts_24 tb_24 (by decide) tz_24 rfl h21 (setO_N rfl rfl)) ?_
            refine dops_rdW [(low, [⟨48, 2, [.agg [.vs 1 (List.map (PV.int .u8) x13.1.l), .int .i64 x13.1.at_]], 0⟩, ⟨5, 1, List.map (PV.int .u8) x18, 0 + 1⟩, ⟨24, 3, List.map T_Frame.enc x20, 0 + 1⟩, ⟨24, 3, [.agg [.int .i64 x13.2.Address, .int .i64 x13.2.Kind, .vs 1 (List.map (PV.int .u8) x13.2.Data)]], 0⟩])] rfl rfl (all1 (VRd.ntl (rd_asL rfl)) all0) ?_
            refine dops_rdW [(low, [⟨48, 2, [.agg [.vs 1 (List.map (PV.int .u8) x13.1.l), .int .i64 x13.1.at_]], 0⟩, ⟨5, 1, List.map (PV.int .u8) x18, 0 + 1⟩, ⟨24, 3, List.map T_Frame.enc x20, 0 + 1⟩, ⟨24, 3, [.agg [.int .i64 x13.2.Address, .int .i64 x13.2.Kind, .vs 1 (List.map (PV.int .u8) x13.2.Data)]], 0⟩])] rfl rfl (all1 (VRd.ntl (rd_asL rfl)) all0) ?_
            refine dops_nil ?_
            refine vwp_region ?_
            refine vops_rd (rd_mvI rfl) rfl ?_
            refine vops_rd (rd_sub rfl rfl rfl) rfl ?_
            refine vops_rd (rd_asI rfl) rfl ?_
            refine vops_nil ?_
            obtain rfl := Option.some.inj hF
            refine onlyE ?_
            exact weak_pick rfl [(0, 0), (1, 0 + 1), (2, 0 + 1)] (by decide) ⟨rn_low rfl (.vs _ _), rn_ptr 0 0 rfl rfl, rn_sl 1 1 rfl rfl, rn_sl 2 2 rfl rfl, rn_low rfl (.int _ _), trivial⟩ ⟨⟨_, rfl, rfl, .same _ _ _ _ (ltObj_es ⟨(lt_agg ⟨.vs _ _, .int _ _, trivial⟩), trivial⟩)⟩, ⟨_, rfl, rfl, .same _ _ _ _ (ltObj_map (fun _ => .int _ _))⟩, ⟨_, rfl, rfl, .same _ _ _ _ (ltObj_map T_Frame.enc_lt)⟩, trivial⟩
        · have hF := bifF c12 hF
          refine vwp_exit ?_
          obtain rfl := Option.some.inj hF
          refine onlyE ?_
          exact weak_pick rfl [(1, 0), (2, 0)] (by decide) ⟨rn_low rfl (.vs _ _), rn_sl 0 1 rfl rfl, rn_sl 1 2 rfl rfl, trivial⟩ ⟨⟨_, rfl, rfl, .same _ _ _ _ (ltObj_map (fun _ => .int _ _))⟩, ⟨_, rfl, rfl, .same _ _ _ _ (ltObj_map T_Frame.enc_lt)⟩, trivial⟩
      · rcases o9 with j10 | j11
        · replace hF := elimL hF
          rintro _ _ _ _ ⟨rfl, hw⟩
          refine ⟨_, _, _, hw, ?_⟩
          obtain rfl := Option.some.inj hF
          refine fnR ?_
          exact weak_sub ⟨rfl, trivial⟩
        · replace hF := elimR hF
          rintro _ _ _ _ ⟨rfl, hw⟩
          refine ⟨_, _, _, hw, ?_⟩
          refine vwp_seq ?_
          refine vwp_region ?_
          obtain ⟨x22, h23, hF⟩ := bnd hF
          refine vops_rd (rd_nc (rd_build (vs := []) (ds := [.nils, .int .i64 0]) tz_36 rfl rfl tp_36 trivial (nt_all2 rfl) rfl) (nc_agg (cs := [.nils, .int .i64 0]) (ds := [.vs 1 (List.map (PV.int .u8) ([] : List Int)), .int .i64 0]) rfl rfl ⟨nc_nil rfl rfl, nc_eq rfl, trivial⟩)) rfl ?_
          refine vops_rd (rd_mvL rfl) rfl ?_
          refine vops_weak (weak_freezeN (E' := [(1, .vs 1 (List.map (PV.int .u8) p1)), (7, .sl (low.length + 1) 0 0 (j11.2).length), (50, .agg [.vs 1 (List.map (PV.int .u8) ([] : List Int)), .int .i64 0]), (51, .vs 1 (List.map (PV.int .u8) j11.1))]) (loc1 := [⟨5, 1, [], 0 + 1⟩, ⟨24, 3, List.map T_Frame.enc j11.2, 0⟩]) rfl 0 rfl (lt_map (fun _ => .int _ _)) ⟨cv_same rfl, cv_same rfl, cv_same rfl, cv_sl rfl rfl rfl (full_take rfl), trivial⟩ ⟨.refl _, .refl _, trivial⟩) ?_
          refine vops_efE (vef_callP rfl Try.call18 (F_telegram_Feed_ok h23 _)) rfl ?_
          refine vops_rd (rd_mvT rfl) rfl ?_
          refine vops_rd (rd_extract rfl rfl) rfl ?_
          refine vops_rd (rd_extract rfl rfl) rfl ?_
          refine vops_efE (vef_allocN rfl rfl tz_36 rfl rfl (Nat.succ_pos _) rfl) rfl ?_
          refine vops_efE (vef_store (p := .agg [.vs 1 (List.map (PV.int .u8) x22.1.Held), .int .i64 x22.1.Dropped]) (e' := .agg [.vs 1 (List.map (PV.int .u8) x22.1.Held), .int .i64 x22.1.Dropped]) rfl (getO_N rfl rfl) rfl rfl ts_36 rfl (nt_ne rfl) rfl (Nat.le_of_ble_eq_true rfl) rfl (setO_N rfl rfl)) rfl ?_
          refine vops_rd (rd_asV rfl) rfl ?_
          refine vops_nil ?_
          refine vwp_seq ?_
          refine vwp_seq ?_
          obtain ⟨o24, ho24, hF⟩ := bnd hF
          refine vwp_monoW (Q' := (fun o24 => OnlyE .normal (fun E' lw lc => Weak E' lw lc [(1, .vs 1 (List.map (PV.int .u8) p1)), (69, .bool o24)] low [])) o24) ?_ ?_
          · replace hF := ho24
            refine vwp_region ?_
            rcases Bool.eq_false_or_eq_true (decide (x22.1.Dropped ≠ 0)) with c25 | c25
            · have hF := bifT c25 hF
              refine vops_rd (rd_fieldAddr rfl tf_36_1 ts_3 (by decide)) rfl ?_
              refine vops_rd (rd_load1 rfl (getO_N rfl rfl) rfl ta_3 rfl) rfl ?_
              refine vops_rd (rd_neq rfl rfl) rfl ?_
              refine vops_rd (rd_mvB rfl) rfl ?_
              refine vops_skip rfl rfl (neT c25) rfl ?_
              refine vops_skip rfl rfl (neT c25) rfl ?_
              refine vops_skip rfl rfl (neT c25) rfl ?_
              refine vops_skip rfl rfl (neT c25) rfl ?_
              refine vops_rd (rd_pickT (congrArg PV.bool c25) rfl) rfl ?_
              refine vops_rd (rd_mvB rfl) rfl ?_
              refine vops_skip rfl rfl (by decide) rfl ?_
              refine vops_skip rfl rfl (by decide) rfl ?_
              refine vops_skip rfl rfl (by decide) rfl ?_
              refine vops_skip rfl rfl (by decide) rfl ?_
              refine vops_rd (rd_pickT rfl rfl) rfl ?_
              refine vops_nil ?_
              obtain rfl := Option.some.inj hF
              refine onlyE ?_
              exact weak_pick rfl [] (by decide) ⟨rn_low rfl (.vs _ _), rn_low rfl (.bool _), trivial⟩ trivial
            · have hF := bifF c25 hF
              rcases Bool.eq_false_or_eq_true (decide (((x22.1.Held).length : Int) ≠ 0)) with c26 | c26
              · have hF := bifT c26 hF
                refine vops_rd (rd_fieldAddr rfl tf_36_1 ts_3 (by decide)) rfl ?_
                refine vops_rd (rd_load1 rfl (getO_N rfl rfl) rfl ta_3 rfl) rfl ?_
                refine vops_rd (rd_neq rfl rfl) rfl ?_
                refine vops_rd (rd_mvB rfl) rfl ?_
                refine vops_take rfl (congrArg PV.bool c25) ?_
                refine vops_rd (rd_fieldAddr rfl tf_36_0 ts_22 (by decide)) rfl ?_
                refine vops_take rfl (congrArg PV.bool c25) ?_
                refine vops_rd (rd_load1 rfl (getO_N rfl rfl) rfl ta_22 rfl) rfl ?_
                refine vops_take rfl (congrArg PV.bool c25) ?_
                refine vops_rd (rd_to (rd_lenV rfl rfl te_22) (congrArg (fun n : Nat => PV.int .i64 (n : Int)) (List.length_map _))) rfl ?_
                refine vops_take rfl (congrArg PV.bool c25) ?_
                refine vops_rd (rd_neq rfl rfl) rfl ?_
                refine vops_rd (rd_pickF (congrArg PV.bool c25) rfl) rfl ?_
                refine vops_rd (rd_mvB rfl) rfl ?_
                refine vops_skip rfl rfl (neT c26) rfl ?_
                refine vops_skip rfl rfl (neT c26) rfl ?_
                refine vops_skip rfl rfl (neT c26) rfl ?_
                refine vops_skip rfl rfl (neT c26) rfl ?_
                refine vops_rd (rd_pickT (congrArg PV.bool c26) rfl) rfl ?_
                refine vops_nil ?_
                obtain rfl := Option.some.inj hF
                refine onlyE ?_
                exact weak_pick rfl [] (by decide) ⟨rn_low rfl (.vs _ _), rn_low rfl (.bool _), trivial⟩ trivial
              · have hF := bifF c26 hF
                obtain ⟨x27, h28, hF⟩ := bnd hF
                refine vops_rd (rd_fieldAddr rfl tf_36_1 ts_3 (by decide)) rfl ?_
                refine vops_rd (rd_load1 rfl (getO_N rfl rfl) rfl ta_3 rfl) rfl ?_
                refine vops_rd (rd_neq rfl rfl) rfl ?_
                refine vops_rd (rd_mvB rfl) rfl ?_
                refine vops_take rfl (congrArg PV.bool c25) ?_
                refine vops_rd (rd_fieldAddr rfl tf_36_0 ts_22 (by decide)) rfl ?_
                refine vops_take rfl (congrArg PV.bool c25) ?_
                refine vops_rd (rd_load1 rfl (getO_N rfl rfl) rfl ta_22 rfl) rfl ?_
                refine vops_take rfl (congrArg PV.bool c25) ?_
                refine vops_rd (rd_to (rd_lenV rfl rfl te_22) (congrArg (fun n : Nat => PV.int .i64 (n : Int)) (List.length_map _))) rfl ?_
                refine vops_take rfl (congrArg PV.bool c25) ?_
                refine vops_rd (rd_neq rfl rfl) rfl ?_
                refine vops_rd (rd_pickF (congrArg PV.bool c25) rfl) rfl ?_
                refine vops_rd (rd_mvB rfl) rfl ?_
                refine vops_take rfl (congrArg PV.bool c26) ?_
                refine vops_rd (rd_mvV rfl) rfl ?_
                refine vops_take rfl (congrArg PV.bool c26) ?_
                refine vops_rd (rd_mvL rfl) rfl ?_
                refine vops_take rfl (congrArg PV.bool c26) ?_
                refine vops_efE (vef_callB (vs := [.vs 3 (List.map T_Frame.enc x22.2), .vs 3 (List.map T_Frame.enc j11.2)]) rfl Try.call20 ⟨view_same rfl (.vs _ _), view_sl rfl (getO_N rfl rfl) rfl rfl (lt_map T_Frame.enc_lt) (full_take rfl), trivial⟩ ((F_ref04_Same_ok h28 []).mono fun _ _ h => h.1) (.bool _)) rfl ?_
                refine vops_take rfl (congrArg PV.bool c26) ?_
                refine vops_rd (rd_not rfl) rfl ?_
                refine vops_rd (rd_pickF (congrArg PV.bool c26) rfl) rfl ?_
                refine vops_nil ?_
                obtain rfl := Option.some.inj hF
                refine onlyE ?_
                exact weak_pick rfl [] (by decide) ⟨rn_low rfl (.vs _ _), rn_low rfl (.bool _), trivial⟩ trivial
          · rintro _ _ _ _ ⟨rfl, hw⟩
            refine ⟨_, _, _, hw, ?_⟩
            refine vwp_cond rfl (fun c29 => ?_) (fun c29 => ?_)
            · have hF := bifT c29 hF
              refine vwp_seq ?_
              refine vwp_region ?_
              refine vops_rd (rd_asB rfl) rfl ?_
              refine vops_nil ?_
              refine vwp_ret ?_
              obtain rfl := Option.some.inj hF
              refine fnR ?_
              exact weak_sub ⟨rfl, trivial⟩
            · have hF := bifF c29 hF
              refine vwp_skip ?_
              refine vwp_seq ?_
              refine vwp_region ?_
              refine vops_efE (vef_litF (es := List.map (PV.int .u8) [1]) ⟨rfl, rfl, trivial⟩ rfl rfl (nt_all rfl) te_22 ts_5 tz_5 rfl rfl (Nat.succ_pos _) (by decide) (lt_map (fun _ => .int _ _))) rfl ?_
              refine vops_rd (rd_build (vs := [(0, .int .i64 200), (1, .int .i64 77), (2, .vs 1 (List.map (PV.int .u8) [1]))]) (ds := [.int .i64 200, .int .i64 77, .vs 1 (List.map (PV.int .u8) [1])]) tz_24 rfl rfl tp_24 ⟨rfl, rfl, rfl, rfl, rfl, rfl, trivial⟩ (nt_all2 rfl) rfl) rfl ?_
              refine vops_efE (vef_allocN rfl rfl tz_24 rfl rfl (Nat.succ_pos _) rfl) rfl ?_
              refine vops_efE (vef_store (p := .agg [.int .i64 200, .int .i64 77, .vs 1 (List.map (PV.int .u8) [1])]) (e' := .agg [.int .i64 200, .int .i64 77, .vs 1 (List.map (PV.int .u8) [1])]) rfl (getO_N rfl rfl) rfl rfl ts_24 rfl (nt_ne rfl) rfl (Nat.le_of_ble_eq_true rfl) rfl (setO_N rfl rfl)) rfl ?_
              refine vops_nil ?_
              refine vwp_seq ?_
              refine vwp_region ?_
              obtain ⟨x30, h31, hF⟩ := bnd hF
              refine vops_rd (rd_loadN (ds := [.int .i64 200, .int .i64 77, .vs 1 (List.map (PV.int .u8) [1])]) rfl (getO_N rfl rfl) rfl ta_24 ts_24 rfl rfl rfl) rfl ?_
              refine vops_efE (vef_callP rfl Try.call12 (F_telegram_Write_ok h31 _)) rfl ?_
              refine vops_rd (rd_mvT rfl) rfl ?_
              refine vops_rd (rd_extract rfl rfl) rfl ?_
              refine vops_rd (rd_extract rfl rfl) rfl ?_
              refine vops_rd (rd_asV rfl) rfl ?_
              refine vops_rd (rd_asI rfl) rfl ?_
              refine vops_nil ?_
              refine vwp_seq ?_
              refine vwp_region ?_
              obtain ⟨x32, h33, hF⟩ := bnd hF
              obtain ⟨x34, h35, hF⟩ := bnd hF
              refine vops_rd (rd_mvV rfl) rfl ?_
              refine vops_efE (vef_ap0N (f := (PV.int .u8)) (ys := p1) rfl rfl (.inl rfl) rfl (src_vs rfl) (Nat.succ_pos _) te_22 ts_5 tb_5 (by decide) tz_5 rfl h33) rfl ?_
              refine vops_rd (rd_mvV rfl) rfl ?_
              refine vops_efE (vef_apL (f := (PV.int .u8)) (l := x32) (ys := x30.1) rfl rfl (getO_N rfl rfl) rfl (src_vs rfl) te_22 ts_5 tb_5 (by decide) tz_5 rfl h35 (setO_N rfl rfl)) rfl ?_
              refine vops_rd (rd_asL rfl) rfl ?_
              refine vops_nil ?_
              refine vwp_seq ?_
              refine vwp_seq ?_
              refine vwp_region ?_
              refine vops_rd (rd_asI rfl) rfl ?_
              refine vops_nil ?_
              refine vwp_block ?_
              obtain ⟨o37, ho37, hF⟩ := bnd hF
              refine vwp_monoW (vwp_loopC F_law04_TelegramBack_L2 (fun s36 E' lw lc => Weak E' lw lc [(14, .ptr (low.length + 0) 0 0 0), (17, .sl (low.length + 1) 0 0 (s36.2).length), (18, .int .i64 s36.1)] low [⟨24, 3, [.agg [.int .i64 200, .int .i64 77, .vs 1 (List.map (PV.int .u8) [1])]], 0⟩, ⟨5, 1, List.map (PV.int .u8) s36.2, 0⟩]) (fun o37 => OnlyE (.exit 2) (fun E' lw lc => Weak E' lw lc [(14, .ptr (low.length + 0) 0 0 0), (17, .sl (low.length + 1) 0 0 (o37).length)] low [⟨24, 3, [.agg [.int .i64 200, .int .i64 77, .vs 1 (List.map (PV.int .u8) [1])]], 0⟩, ⟨5, 1, List.map (PV.int .u8) o37, 0⟩])) ho37 ?_ (by rintro _ _ _ _ ⟨h, _⟩ <;> cases h) ?_) ?_
              · exact weak_pick rfl [(0, 0), (1, 0 + 1)] (by decide) ⟨rn_ptr 0 0 rfl rfl, rn_sl 1 1 rfl rfl, rn_low rfl (.int _ _), trivial⟩ ⟨⟨_, rfl, rfl, .same _ _ _ _ (ltObj_es ⟨(lt_agg ⟨.int _ _, .int _ _, .vs _ _, trivial⟩), trivial⟩)⟩, ⟨_, rfl, rfl, .same _ _ _ _ (ltObj_map (fun _ => .int _ _))⟩, trivial⟩
              · rintro s36 os36 _ _ _ hF hw
                unfold F_law04_TelegramBack_L2 at hF
                refine vwp_weak hw ?_
                refine vwp_seq ?_
                refine vwp_seq ?_
                refine vwp_region ?_
                refine vops_rd (rd_mvI rfl) rfl ?_
                refine vops_rd (rd_lss rfl rfl) rfl ?_
                refine vops_nil ?_
                refine vwp_cond rfl (fun c38 => ?_) (fun c38 => ?_)
                · have hF := bifT c38 hF
                  refine vwp_skip ?_
                  refine vwp_seq ?_
                  refine vwp_block ?_
                  refine vwp_region ?_
                  obtain ⟨x39, h40, hF⟩ := bnd hF
                  refine vops_rd (rd_mvL rfl) rfl ?_
                  refine vops_efE (vef_litF (es := List.map (PV.int .u8) [0]) ⟨rfl, rfl, trivial⟩ rfl rfl (nt_all rfl) te_22 ts_5 tz_5 rfl rfl (Nat.succ_pos _) (by decide) (lt_map (fun _ => .int _ _))) rfl ?_
                  refine vops_efE (vef_apL (f := (PV.int .u8)) (l := s36.2) (ys := [0]) rfl rfl (getO_N rfl rfl) rfl (src_vs rfl) te_22 ts_5 tb_5 (by decide) tz_5 rfl h40 (setO_N rfl rfl)) rfl ?_
                  refine vops_rd (rd_asL rfl) rfl ?_
                  refine vops_nil ?_
                  refine vwp_region ?_
                  refine vops_rd (rd_mvI rfl) rfl ?_
                  refine vops_rd (rd_add rfl rfl rfl) rfl ?_
                  refine vops_rd (rd_asI rfl) rfl ?_
                  refine vops_nil ?_
                  obtain rfl := Option.some.inj hF
                  refine onlyE ?_
                  exact weak_pick rfl [(0, 0), (1, 0 + 1)] (by decide) ⟨rn_ptr 0 0 rfl rfl, rn_sl 1 1 rfl rfl, rn_low rfl (.int _ _), trivial⟩ ⟨⟨_, rfl, rfl, .same _ _ _ _ (ltObj_es ⟨(lt_agg ⟨.int _ _, .int _ _, .vs _ _, trivial⟩), trivial⟩)⟩, ⟨_, rfl, rfl, .same _ _ _ _ (ltObj_map (fun _ => .int _ _))⟩, trivial⟩
                · have hF := bifF c38 hF
                  refine vwp_exit ?_
                  obtain rfl := Option.some.inj hF
                  refine onlyE ?_
                  exact weak_sub ⟨rfl, rfl, trivial⟩
              · rintro _ _ _ _ ⟨rfl, hw⟩
                refine ⟨_, _, _, hw, ?_⟩
                refine vwp_seq ?_
                refine vwp_region ?_
                obtain ⟨x41, h42, hF⟩ := bnd hF
                refine vops_rd (rd_nc (rd_build (vs := []) (ds := [.nils, .int .i64 0]) tz_36 rfl rfl tp_36 trivial (nt_all2 rfl) rfl) (nc_agg (cs := [.nils, .int .i64 0]) (ds := [.vs 1 (List.map (PV.int .u8) ([] : List Int)), .int .i64 0]) rfl rfl ⟨nc_nil rfl rfl, nc_eq rfl, trivial⟩)) rfl ?_
                refine vops_rd (rd_mvL rfl) rfl ?_
                refine vops_weak (weak_freezeN (E' := [(14, .ptr (low.length + 0) 0 0 0), (89, .agg [.vs 1 (List.map (PV.int .u8) ([] : List Int)), .int .i64 0]), (90, .vs 1 (List.map (PV.int .u8) o37))]) (loc1 := [⟨24, 3, [.agg [.int .i64 200, .int .i64 77, .vs 1 (List.map (PV.int .u8) [1])]], 0⟩, ⟨5, 1, [], 0 + 1⟩]) rfl 1 rfl (lt_map (fun _ => .int _ _)) ⟨cv_same rfl, cv_same rfl, cv_sl rfl rfl rfl (full_take rfl), trivial⟩ ⟨.refl _, .refl _, trivial⟩) ?_
                refine vops_efE (vef_callP rfl Try.call18 (F_telegram_Feed_ok h42 _)) rfl ?_
                refine vops_rd (rd_mvT rfl) rfl ?_
                refine vops_rd (rd_extract rfl rfl) rfl ?_
                refine vops_rd (rd_extract rfl rfl) rfl ?_
                refine vops_rd (rd_asV rfl) rfl ?_
                refine vops_nil ?_
                refine vwp_seq ?_
                refine vwp_region ?_
                refine vops_rd (rd_asB rfl) rfl ?_
                refine vops_nil ?_
                refine vwp_seq ?_
                refine vwp_seq ?_
                refine vwp_region ?_
                refine vops_rd (rd_asI rfl) rfl ?_
                refine vops_nil ?_
                refine vwp_block ?_
                obtain ⟨o44, ho44, hF⟩ := bnd hF
                refine vwp_monoW (vwp_loopC (F_law04_TelegramBack_L3 x41) (fun s43 E' lw lc => Weak E' lw lc [(13, .vs 3 (List.map T_Frame.enc x41.2)), (14, .ptr (low.length + 0) 0 0 0), (19, .bool s43.1), (20, .int .i64 s43.2)] low [⟨24, 3, [.agg [.int .i64 200, .int .i64 77, .vs 1 (List.map (PV.int .u8) [1])]], 0⟩]) (fun o44 => OnlyE (.exit 4) (fun E' lw lc => Weak E' lw lc [(13, .vs 3 (List.map T_Frame.enc x41.2)), (19, .bool o44)] low [])) ho44 ?_ (by rintro _ _ _ _ ⟨h, _⟩ <;> cases h) ?_) ?_
                · exact weak_pick rfl [(0, 0)] (by decide) ⟨rn_low rfl (.vs _ _), rn_ptr 0 0 rfl rfl, rn_low rfl (.bool _), rn_low rfl (.int _ _), trivial⟩ ⟨⟨_, rfl, rfl, .same _ _ _ _ (ltObj_es ⟨(lt_agg ⟨.int _ _, .int _ _, .vs _ _, trivial⟩), trivial⟩)⟩, trivial⟩
                · rintro s43 os43 _ _ _ hF hw
                  unfold F_law04_TelegramBack_L3 at hF
                  refine vwp_weak hw ?_
                  refine vwp_seq ?_
                  refine vwp_seq ?_
                  refine vwp_region ?_
                  refine vops_rd (rd_mvI rfl) rfl ?_
                  refine vops_rd (rd_mvV rfl) rfl ?_
                  refine vops_rd (rd_to (rd_lenV rfl rfl te_29) (congrArg (fun n : Nat => PV.int .i64 (n : Int)) (List.length_map _))) rfl ?_
                  refine vops_rd (rd_lss rfl rfl) rfl ?_
                  refine vops_nil ?_
                  refine vwp_cond rfl (fun c45 => ?_) (fun c45 => ?_)
                  · have hF := bifT c45 hF
                    refine vwp_skip ?_
                    refine vwp_seq ?_
                    obtain ⟨o46, ho46, hF⟩ := bnd hF
                    refine vwp_monoW (Q' := (fun o46 => OnlyE .normal (fun E' lw lc => Weak E' lw lc [(13, .vs 3 (List.map T_Frame.enc x41.2)), (14, .ptr (low.length + 0) 0 0 0), (19, .bool o46), (20, .int .i64 s43.2)] low [⟨24, 3, [.agg [.int .i64 200, .int .i64 77, .vs 1 (List.map (PV.int .u8) [1])]], 0⟩])) o46) ?_ ?_
                    · replace hF := ho46
                      refine vwp_block ?_
                      rcases Bool.eq_false_or_eq_true s43.1 with c47 | c47
                      · have hF := bifT c47 hF
                        refine vwp_drawn [[], [0], [0, 1], [0, 1], [0, 1], [0, 1, 4], [0, 1, 2, 3, 4, 5], [0, 1], [0, 1, 7], [0, 1, 2, 3, 4, 5, 6, 7, 8], [0, 1, 2, 3, 4, 5, 6, 7, 8, 9], [0, 1, 2, 3, 4, 5, 6, 7, 8, 9, 10]] [false, false, false, false, false, false, false, false, false, false, false, false] [(low, [⟨24, 3, [.agg [.int .i64 200, .int .i64 77, .vs 1 (List.map (PV.int .u8) [1])]], 0⟩])] mixed (by kernel_rfl) rfl (lenAll (all1 rfl all0)) rfl (low, [⟨24, 3, [.agg [.int .i64 200, .int .i64 77, .vs 1 (List.map (PV.int .u8) [1])]], 0⟩]) rfl rfl ?_
                        refine dops_rdW [(low, [⟨24, 3, [.agg [.int .i64 200, .int .i64 77, .vs 1 (List.map (PV.int .u8) [1])]], 0⟩])] rfl rfl (all1 (VRd.ntl (rd_mvB rfl)) all0) ?_
                        refine dops_rdW [(low, [⟨24, 3, [.agg [.int .i64 200, .int .i64 77, .vs 1 (List.map (PV.int .u8) [1])]], 0⟩])] rfl rfl (all1 (VRd.ntl (rd_mvB rfl)) all0) ?_
                        refine dops_skip rfl rfl rfl (neT c47) ?_
                        refine dops_skip rfl rfl rfl (neT c47) ?_
                        refine dops_skip rfl rfl rfl (neT c47) ?_
                        refine dops_skip rfl rfl rfl (neT c47) ?_
                        refine dops_skip rfl rfl rfl (neT c47) ?_
                        refine dops_skip rfl rfl rfl (neT c47) ?_
                        refine dops_skip rfl rfl rfl (neT c47) ?_
                        refine dops_skip rfl rfl rfl (neT c47) ?_
                        refine dops_rdW [(low, [⟨24, 3, [.agg [.int .i64 200, .int .i64 77, .vs 1 (List.map (PV.int .u8) [1])]], 0⟩])] rfl rfl (all1 (VRd.ntl (rd_pickT (congrArg PV.bool c47) rfl)) all0) ?_
                        refine dops_rdW [(low, [⟨24, 3, [.agg [.int .i64 200, .int .i64 77, .vs 1 (List.map (PV.int .u8) [1])]], 0⟩])] rfl rfl (all1 (VRd.ntl (rd_asB rfl)) all0) ?_
                        refine dops_nil ?_
                        obtain rfl := Option.some.inj hF
                        refine onlyE ?_
                        exact weak_sub ⟨rfl, rfl, rfl, rfl, trivial⟩
                      · have hF := bifF c47 hF
                        obtain ⟨x48, h49, hF⟩ := bnd hF
                        obtain ⟨x50, h51, hF⟩ := bnd hF
                        refine vwp_drawn [[], [0], [0, 1], [0, 1], [0, 1], [0, 1, 4], [0, 1, 2, 3, 4, 5], [0, 1], [0, 1, 7], [0, 1, 2, 3, 4, 5, 6, 7, 8], [0, 1, 2, 3, 4, 5, 6, 7, 8, 9], [0, 1, 2, 3, 4, 5, 6, 7, 8, 9, 10]] [false, false, false, false, false, false, false, false, false, false, false, false] [(low, [⟨24, 3, [.agg [.int .i64 200, .int .i64 77, .vs 1 (List.map (PV.int .u8) [1])]], 0⟩])] mixed (by kernel_rfl) rfl (lenAll (all1 rfl all0)) rfl (low, [⟨24, 3, [.agg [.int .i64 200, .int .i64 77, .vs 1 (List.map (PV.int .u8) [1])]], 0⟩]) rfl rfl ?_
                        refine dops_rdW [(low, [⟨24, 3, [.agg [.int .i64 200, .int .i64 77, .vs 1 (List.map (PV.int .u8) [1])]], 0⟩])] rfl rfl (all1 (VRd.ntl (rd_mvB rfl)) all0) ?_
                        refine dops_rdW [(low, [⟨24, 3, [.agg [.int .i64 200, .int .i64 77, .vs 1 (List.map (PV.int .u8) [1])]], 0⟩])] rfl rfl (all1 (VRd.ntl (rd_mvB rfl)) all0) ?_
                        refine dops_takeW [(low, [⟨24, 3, [.agg [.int .i64 200, .int .i64 77, .vs 1 (List.map (PV.int .u8) [1])]], 0⟩])] rfl rfl rfl (congrArg PV.bool c47) (all1 (VRd.ntl (rd_mvV rfl)) all0) ?_
                        refine dops_takeW [(low, [⟨24, 3, [.agg [.int .i64 200, .int .i64 77, .vs 1 (List.map (PV.int .u8) [1])]], 0⟩])] rfl rfl rfl (congrArg PV.bool c47) (all1 (VRd.ntl (rd_mvI rfl)) all0) ?_
                        refine dops_takeW [(low, [⟨24, 3, [.agg [.int .i64 200, .int .i64 77, .vs 1 (List.map (PV.int .u8) [1])]], 0⟩])] rfl rfl rfl (congrArg PV.bool c47) (all1 (VRd.ntl (rd_mvI rfl)) all0) ?_
                        refine dops_takeW [(low, [⟨24, 3, [.agg [.int .i64 200, .int .i64 77, .vs 1 (List.map (PV.int .u8) [1])]], 0⟩])] rfl rfl rfl (congrArg PV.bool c47) (all1 (VRd.ntl (rd_add rfl rfl rfl)) all0) ?_
                        refine dops_takeW [(low, [⟨24, 3, [.agg [.int .i64 200, .int .i64 77, .vs 1 (List.map (PV.int .u8) [1])]], 0⟩])] rfl rfl rfl (congrArg PV.bool c47) (all1 (VRd.ntl (rd_slV rfl te_29 ts_24 ⟨_, rfl⟩ ⟨_, rfl⟩ h49)) all0) ?_
                        refine dops_takeW [(low, [⟨24, 3, [.agg [.int .i64 200, .int .i64 77, .vs 1 (List.map (PV.int .u8) [1])]], 0⟩])] rfl rfl rfl (congrArg PV.bool c47) (all1 (VRd.ntl (rd_loadN (ds := [.int .i64 200, .int .i64 77, .vs 1 (List.map (PV.int .u8) [1])]) rfl (getO_N rfl rfl) rfl ta_24 ts_24 rfl rfl rfl)) all0) ?_
                        refine dops_takeW [(low, [⟨24, 3, [.agg [.int .i64 200, .int .i64 77, .vs 1 (List.map (PV.int .u8) [1])]], 0⟩])] rfl rfl rfl (congrArg PV.bool c47) (all1 (nt_of (vef_litF (es := List.map T_Frame.enc [(T_Frame.mk 200 77 [1])]) ⟨rfl, rfl, trivial⟩ rfl rfl (nt_all rfl) te_29 ts_24 tz_24 rfl rfl (Nat.succ_pos _) (by decide) (lt_map T_Frame.enc_lt))) all0) ?_
                        refine dops_takeW [(low, [⟨24, 3, [.agg [.int .i64 200, .int .i64 77, .vs 1 (List.map (PV.int .u8) [1])]], 0⟩])] rfl rfl rfl (congrArg PV.bool c47) (all1 (nt_of (vef_callP rfl Try.call20 (F_ref04_Same_ok h51 _))) all0) ?_
                        refine dops_rdW [(low, [⟨24, 3, [.agg [.int .i64 200, .int .i64 77, .vs 1 (List.map (PV.int .u8) [1])]], 0⟩])] rfl rfl (all1 (VRd.ntl (rd_pickF (congrArg PV.bool c47) rfl)) all0) ?_
                        refine dops_rdW [(low, [⟨24, 3, [.agg [.int .i64 200, .int .i64 77, .vs 1 (List.map (PV.int .u8) [1])]], 0⟩])] rfl rfl (all1 (VRd.ntl (rd_asB rfl)) all0) ?_
                        refine dops_nil ?_
                        obtain rfl := Option.some.inj hF
                        refine onlyE ?_
                        exact weak_sub ⟨rfl, rfl, rfl, rfl, trivial⟩
                    · rintro _ _ _ _ ⟨rfl, hw⟩
                      refine ⟨_, _, _, hw, ?_⟩
                      refine vwp_region ?_
                      refine vops_rd (rd_mvI rfl) rfl ?_
                      refine vops_rd (rd_add rfl rfl rfl) rfl ?_
                      refine vops_rd (rd_asI rfl) rfl ?_
                      refine vops_nil ?_
                      obtain rfl := Option.some.inj hF
                      refine onlyE ?_
                      exact weak_sub ⟨rfl, rfl, rfl, rfl, trivial⟩
                  · have hF := bifF c45 hF
                    refine vwp_exit ?_
                    obtain rfl := Option.some.inj hF
                    refine onlyE ?_
                    exact weak_pick rfl [] (by decide) ⟨rn_low rfl (.vs _ _), rn_low rfl (.bool _), trivial⟩ trivial
                · rintro _ _ _ _ ⟨rfl, hw⟩
                  refine ⟨_, _, _, hw, ?_⟩
                  refine vwp_seq ?_
                  refine vwp_region ?_
                  rcases Bool.eq_false_or_eq_true o44 with c52 | c52
                  · have hF := bifT c52 hF
                    obtain ⟨x53, h54, hF⟩ := bnd hF
                    refine vops_rd (rd_mvB rfl) rfl ?_
                    refine vops_rd (rd_mvB rfl) rfl ?_
                    refine vops_skip rfl rfl (neT c52) rfl ?_
                    refine vops_skip rfl rfl (neT c52) rfl ?_
                    refine vops_skip rfl rfl (neT c52) rfl ?_
                    refine vops_rd (rd_pickT (congrArg PV.bool c52) rfl) rfl ?_
                    refine vops_rd (rd_mvB rfl) rfl ?_
                    refine vops_take rfl rfl ?_
                    refine vops_efE (vef_callP rfl Try.call9 (F_law04_awake_ok h54 _)) rfl ?_
                    refine vops_rd (rd_pickT rfl rfl) rfl ?_
                    refine vops_rd (rd_asB rfl) rfl ?_
                    refine vops_nil ?_
                    refine vwp_ret ?_
                    obtain rfl := Option.some.inj hF
                    refine fnR ?_
                    exact weak_sub ⟨rfl, trivial⟩
                  · have hF := bifF c52 hF
                    rcases Bool.eq_false_or_eq_true (decide (0 < ((x41.2).length : Int))) with c55 | c55
                    · have hF := bifT c55 hF
                      obtain ⟨x56, h57, hF⟩ := bnd hF
                      refine vops_rd (rd_mvB rfl) rfl ?_
                      refine vops_rd (rd_mvB rfl) rfl ?_
                      refine vops_take rfl (congrArg PV.bool c52) ?_
                      refine vops_rd (rd_mvV rfl) rfl ?_
                      refine vops_take rfl (congrArg PV.bool c52) ?_
                      refine vops_rd (rd_to (rd_lenV rfl rfl te_29) (congrArg (fun n : Nat => PV.int .i64 (n : Int)) (List.length_map _))) rfl ?_
                      refine vops_take rfl (congrArg PV.bool c52) ?_
                      refine vops_rd (rd_gtr rfl rfl) rfl ?_
                      refine vops_rd (rd_pickF (congrArg PV.bool c52) rfl) rfl ?_
                      refine vops_rd (rd_mvB rfl) rfl ?_
                      refine vops_take rfl (congrArg PV.bool c55) ?_
                      refine vops_efE (vef_callP rfl Try.call9 (F_law04_awake_ok h57 _)) rfl ?_
                      refine vops_rd (rd_pickT (congrArg PV.bool c55) rfl) rfl ?_
                      refine vops_rd (rd_asB rfl) rfl ?_
                      refine vops_nil ?_
                      refine vwp_ret ?_
                      obtain rfl := Option.some.inj hF
                      refine fnR ?_
                      exact weak_sub ⟨rfl, trivial⟩
                    · have hF := bifF c55 hF
                      refine vops_rd (rd_mvB rfl) rfl ?_
                      refine vops_rd (rd_mvB rfl) rfl ?_
                      refine vops_take rfl (congrArg PV.bool c52) ?_
                      refine vops_rd (rd_mvV rfl) rfl ?_
                      refine vops_take rfl (congrArg PV.bool c52) ?_
                      refine vops_rd (rd_to (rd_lenV rfl rfl te_29) (congrArg (fun n : Nat => PV.int .i64 (n : Int)) (List.length_map _))) rfl ?_
                      refine vops_take rfl (congrArg PV.bool c52) ?_
                      refine vops_rd (rd_gtr rfl rfl) rfl ?_
                      refine vops_rd (rd_pickF (congrArg PV.bool c52) rfl) rfl ?_
                      refine vops_rd (rd_mvB rfl) rfl ?_
                      refine vops_skip rfl rfl (neF c55) rfl ?_
                      refine vops_rd (rd_pickF (congrArg PV.bool c55) rfl) rfl ?_
                      refine vops_rd (rd_asB rfl) rfl ?_
                      refine vops_nil ?_
                      refine vwp_ret ?_
                      obtain rfl := Option.some.inj hF
                      refine fnR ?_
                      exact weak_sub ⟨rfl, trivial⟩
  · rintro _ _ _ _ ⟨he, hw⟩
    refine ⟨_, _, _, hw, ?_⟩
    exact bodyQ_pure he [.bool r] ⟨rfl, trivial⟩ (.bool _) ⟨rfl, rfl⟩

theorem F_law04_TelegramDamage_ok {p0 : List Int} {p1 : Int} {p2 : Int} {r : Bool} (hF : F_law04_TelegramDamage p0 p1 p2 = some r) (low : List AObj) :
    VCalls Try.prog 7 [.vs 1 (List.map (PV.int .u8) p0), .int .i64 p1, .int .u8 p2] low fun x low' => x = .bool r ∧ low' = low := by
  refine vcalls_of_body (nt := 70) (rs := [.tmp 6]) Try.func7 rfl rfl (Nat.le_of_ble_eq_true rfl) rfl ?_
  refine vwp_monoW (Q' := FnE (fun E' lw lc => Weak E' lw lc [(6, .bool r)] low [])) ?_ ?_
  · unfold F_law04_TelegramDamage at hF
    refine vwp_seq ?_
    refine vwp_region ?_
    refine vops_rd (rd_asB rfl) rfl ?_
    refine vops_nil ?_
    refine vwp_seq ?_
    refine vwp_region ?_
    obtain ⟨x1, h2, hF⟩ := bnd hF
    obtain ⟨x3, h4, hF⟩ := bnd hF
    refine vops_rd (rd_mvV rfl) rfl ?_
    refine vops_efE (vef_callN (r := .ptr (low.length + 0) 0 0 0) (os := [⟨48, 2, [.agg [.vs 1 (List.map (PV.int .u8) x1.l), .int .i64 x1.at_]], 0⟩]) rfl Try.call10 (F_draw_New_ok h2 _ (len_app rfl rfl))) rfl ?_
    refine vops_efE (vef_callMN (k := 0) (loc1 := [⟨48, 2, [.agg [.vs 1 (List.map (PV.int .u8) x3.1.l), .int .i64 x3.1.at_]], 0⟩]) rfl rfl Try.call11 (F_draw_Codes_Frame_ok h4 (get_N rfl rfl)) rfl) rfl ?_
    refine vops_efE (vef_allocN rfl rfl tz_24 rfl rfl (Nat.succ_pos _) rfl) rfl ?_
    refine vops_efE (vef_store (p := .agg [.int .i64 x3.2.Address, .int .i64 x3.2.Kind, .vs 1 (List.map (PV.int .u8) x3.2.Data)]) (e' := .agg [.int .i64 x3.2.Address, .int .i64 x3.2.Kind, .vs 1 (List.map (PV.int .u8) x3.2.Data)]) rfl (getO_N rfl rfl) rfl rfl ts_24 rfl (nt_ne rfl) rfl (Nat.le_of_ble_eq_true rfl) rfl (setO_N rfl rfl)) rfl ?_
    refine vops_nil ?_
    refine vwp_seq ?_
    refine vwp_region ?_
    obtain ⟨x5, h6, hF⟩ := bnd hF
    refine vops_rd (rd_loadN (ds := [.int .i64 x3.2.Address, .int .i64 x3.2.Kind, .vs 1 (List.map (PV.int .u8) x3.2.Data)]) rfl (getO_N rfl rfl) rfl ta_24 ts_24 rfl rfl rfl) rfl ?_
    refine vops_efE (vef_callP rfl Try.call12 (F_telegram_Write_ok h6 _)) rfl ?_
    refine vops_rd (rd_mvT rfl) rfl ?_
    refine vops_rd (rd_extract rfl rfl) rfl ?_
    refine vops_rd (rd_extract rfl rfl) rfl ?_
    refine vops_rd (rd_asV rfl) rfl ?_
    refine vops_rd (rd_asI rfl) rfl ?_
    refine vops_nil ?_
    refine vwp_seq ?_
    refine vwp_seq ?_
    obtain ⟨o7, ho7, hF⟩ := bnd hF
    refine vwp_monoW (Q' := (fun o7 => OnlyE .normal (fun E' lw lc => Weak E' lw lc [(1, .int .i64 p1), (2, .int .u8 p2), (7, .ptr (low.length + 0) 0 0 0), (8, .vs 1 (List.map (PV.int .u8) x5.1)), (29, .bool o7)] low [⟨24, 3, [.agg [.int .i64 x3.2.Address, .int .i64 x3.2.Kind, .vs 1 (List.map (PV.int .u8) x3.2.Data)]], 0⟩])) o7) ?_ ?_
    · replace hF := ho7
      refine vwp_region ?_
      rcases Bool.eq_false_or_eq_true (decide (x5.2 ≠ 0)) with c8 | c8
      · have hF := bifT c8 hF
        refine vops_rd (rd_mvI rfl) rfl ?_
        refine vops_rd (rd_neq rfl rfl) rfl ?_
        refine vops_rd (rd_mvB rfl) rfl ?_
        refine vops_skip rfl rfl (neT c8) rfl ?_
        refine vops_skip rfl rfl (neT c8) rfl ?_
        refine vops_skip rfl rfl (neT c8) rfl ?_
        refine vops_rd (rd_pickT (congrArg PV.bool c8) rfl) rfl ?_
        refine vops_nil ?_
        obtain rfl := Option.some.inj hF
        refine onlyE ?_
        exact weak_pick rfl [(1, 0)] (by decide) ⟨rn_low rfl (.int _ _), rn_low rfl (.int _ _), rn_ptr 0 1 rfl rfl, rn_low rfl (.vs _ _), rn_low rfl (.bool _), trivial⟩ ⟨⟨_, rfl, rfl, .same _ _ _ _ (ltObj_es ⟨(lt_agg ⟨.int _ _, .int _ _, .vs _ _, trivial⟩), trivial⟩)⟩, trivial⟩
      · have hF := bifF c8 hF
        refine vops_rd (rd_mvI rfl) rfl ?_
        refine vops_rd (rd_neq rfl rfl) rfl ?_
        refine vops_rd (rd_mvB rfl) rfl ?_
        refine vops_take rfl (congrArg PV.bool c8) ?_
        refine vops_rd (rd_mvV rfl) rfl ?_
        refine vops_take rfl (congrArg PV.bool c8) ?_
        refine vops_rd (rd_to (rd_lenV rfl rfl te_22) (congrArg (fun n : Nat => PV.int .i64 (n : Int)) (List.length_map _))) rfl ?_
        refine vops_take rfl (congrArg PV.bool c8) ?_
        refine vops_rd (rd_lss rfl rfl) rfl ?_
        refine vops_rd (rd_pickF (congrArg PV.bool c8) rfl) rfl ?_
        refine vops_nil ?_
        obtain rfl := Option.some.inj hF
        refine onlyE ?_
        exact weak_pick rfl [(1, 0)] (by decide) ⟨rn_low rfl (.int _ _), rn_low rfl (.int _ _), rn_ptr 0 1 rfl rfl, rn_low rfl (.vs _ _), rn_low rfl (.bool _), trivial⟩ ⟨⟨_, rfl, rfl, .same _ _ _ _ (ltObj_es ⟨(lt_agg ⟨.int _ _, .int _ _, .vs _ _, trivial⟩), trivial⟩)⟩, trivial⟩
    · rintro _ _ _ _ ⟨rfl, hw⟩
      refine ⟨_, _, _, hw, ?_⟩
      refine vwp_cond rfl (fun c9 => ?_) (fun c9 => ?_)
      · have hF := bifT c9 hF
        refine vwp_seq ?_
        refine vwp_region ?_
        refine vops_rd (rd_asB rfl) rfl ?_
        refine vops_nil ?_
        refine vwp_ret ?_
        obtain rfl := Option.some.inj hF
        refine fnR ?_
        exact weak_pick rfl [] (by decide) ⟨rn_low rfl (.bool _), trivial⟩ trivial
      · have hF := bifF c9 hF
        refine vwp_skip ?_
        refine vwp_seq ?_
        refine vwp_region ?_
        obtain ⟨x10, h11, hF⟩ := bnd hF
        refine vops_rd (rd_mvI rfl) rfl ?_
        refine vops_rd (rd_mvV rfl) rfl ?_
        refine vops_rd (rd_to (rd_lenV rfl rfl te_22) (congrArg (fun n : Nat => PV.int .i64 (n : Int)) (List.length_map _))) rfl ?_
        refine vops_efE (vef_callP rfl Try.call17 (F_draw_Mod_ok h11 _)) rfl ?_
        refine vops_rd (rd_asI rfl) rfl ?_
        refine vops_nil ?_
        refine vwp_seq ?_
        refine vwp_seq ?_
        refine vwp_region ?_
        obtain ⟨x12, h13, hF⟩ := bnd hF
        refine vops_rd (rd_mvV rfl) rfl ?_
        refine vops_rd (rd_mvI rfl) rfl ?_
        refine vops_rd (rd_to (rd_ixV rfl rfl h13 te_22 ts_5) (v' := .vptr [.int .u8 x12] 0) rfl) rfl ?_
        refine vops_rd (rd_loadV1 rfl ta_5 rfl) rfl ?_
        refine vops_rd (rd_mvI rfl) rfl ?_
        refine vops_rd (rd_eql rfl rfl) rfl ?_
        refine vops_nil ?_
        refine vwp_cond rfl (fun c14 => ?_) (fun c14 => ?_)
        · have hF := bifT c14 hF
          refine vwp_seq ?_
          refine vwp_region ?_
          obtain ⟨x15, h16, hF⟩ := bnd hF
          refine vops_efE (vef_callP rfl Try.call9 (F_law04_awake_ok h16 _)) rfl ?_
          refine vops_rd (rd_asB rfl) rfl ?_
          refine vops_nil ?_
          refine vwp_ret ?_
          obtain rfl := Option.some.inj hF
          refine fnR ?_
          exact weak_pick rfl [] (by decide) ⟨rn_low rfl (.bool _), trivial⟩ trivial
        · have hF := bifF c14 hF
          refine vwp_skip ?_
          refine vwp_seq ?_
          refine vwp_region ?_
          obtain ⟨x17, h18, hF⟩ := bnd hF
          refine vops_rd (rd_mvV rfl) rfl ?_
          refine vops_efE (vef_ap0N (f := (PV.int .u8)) (ys := x5.1) rfl rfl (.inl rfl) rfl (src_vs rfl) (Nat.succ_pos _) te_22 ts_5 tb_5 (by decide) tz_5 rfl h18) rfl ?_
          refine vops_rd (rd_asL rfl) rfl ?_
          refine vops_nil ?_
          refine vwp_seq ?_
          refine vwp_region ?_
          obtain ⟨x19, h20, hF⟩ := bnd hF
          refine vops_rd (rd_mvL rfl) rfl ?_
          refine vops_rd (rd_mvI rfl) rfl ?_
          refine vops_rd (rd_mvI rfl) rfl ?_
          refine vops_rd (rd_ixS rfl rfl rfl (getO_N rfl rfl) h20 te_22 ts_5) rfl ?_
          refine vops_efE (vef_stL (p := .int .u8 p2) (e' := p2) rfl (getO_N rfl rfl) (getI_some h20).2 rfl ts_5 rfl (nt_ne rfl) (Nat.le_of_ble_eq_true rfl) rfl (setO_N rfl rfl)) rfl ?_
          refine vops_nil ?_
          refine vwp_seq ?_
          refine vwp_region ?_
          obtain ⟨x21, h22, hF⟩ := bnd hF
          refine vops_rd (rd_nc (rd_build (vs := []) (ds := [.nils, .int .i64 0]) tz_36 rfl rfl tp_36 trivial (nt_all2 rfl) rfl) (nc_agg (cs := [.nils, .int .i64 0]) (ds := [.vs 1 (List.map (PV.int .u8) ([] : List Int)), .int .i64 0]) rfl rfl ⟨nc_nil rfl rfl, nc_eq rfl, trivial⟩)) rfl ?_
          refine vops_rd (rd_mvL rfl) rfl ?_
          refine vops_weak (weak_freezeN (E' := [(7, .ptr (low.length + 0) 0 0 0), (48, .agg [.vs 1 (List.map (PV.int .u8) ([] : List Int)), .int .i64 0]), (49, .vs 1 (List.map (PV.int .u8) (x17.set ((x10).toNat) p2)))]) (loc1 := [⟨24, 3, [.agg [.int .i64 x3.2.Address, .int .i64 x3.2.Kind, .vs 1 (List.map (PV.int .u8) x3.2.Data)]], 0⟩, ⟨5, 1, [], 0 + 1⟩]) rfl 1 rfl (lt_map (fun _ => .int _ _)) ⟨cv_same rfl, cv_same rfl, cv_sl rfl rfl rfl (full_take (Eq.trans rfl List.length_set.symm)), trivial⟩ ⟨.refl _, .refl _, trivial⟩) ?_
          refine vops_efE (vef_callP rfl Try.call18 (F_telegram_Feed_ok h22 _)) rfl ?_
          refine vops_rd (rd_mvT rfl) rfl ?_
          refine vops_rd (rd_extract rfl rfl) rfl ?_
          refine vops_rd (rd_extract rfl rfl) rfl ?_
          refine vops_efE (vef_allocN rfl rfl tz_36 rfl rfl (Nat.succ_pos _) rfl) rfl ?_
          refine vops_efE (vef_store (p := .agg [.vs 1 (List.map (PV.int .u8) x21.1.Held), .int .i64 x21.1.Dropped]) (e' := .agg [.vs 1 (List.map (PV.int .u8) x21.1.Held), .int .i64 x21.1.Dropped]) rfl (getO_N rfl rfl) rfl rfl ts_36 rfl (nt_ne rfl) rfl (Nat.le_of_ble_eq_true rfl) rfl (setO_N rfl rfl)) rfl ?_
          refine vops_rd (rd_asV rfl) rfl ?_
          refine vops_nil ?_
          refine vwp_seq ?_
          refine vwp_seq ?_
          refine vwp_region ?_
          refine vops_rd (rd_asI rfl) rfl ?_
          refine vops_nil ?_
          refine vwp_block ?_
          obtain ⟨o24, ho24, hF⟩ := bnd hF
          refine vwp_monoW (vwp_loopC (F_law04_TelegramDamage_L1 x3 x21) (fun s23 E' lw lc => Weak E' lw lc [(7, .ptr (low.length + 0) 0 0 0), (13, .vs 3 (List.map T_Frame.enc x21.2)), (14, .int .i64 s23)] low [⟨24, 3, [.agg [.int .i64 x3.2.Address, .int .i64 x3.2.Kind, .vs 1 (List.map (PV.int .u8) x3.2.Data)]], 0⟩]) (Sum.elim (fun j25 => OnlyE .ret (fun E' lw lc => Weak E' lw lc [(6, .bool false)] low [])) (fun j26 => OnlyE (.exit 0) (fun E' lw lc => Weak E' lw lc [] low []))) ho24 ?_ (by rintro (_|_) _ _ _ ⟨h, _⟩ <;> cases h) ?_) ?_
          · exact weak_pick rfl [(0, 0)] (by decide) ⟨rn_ptr 0 0 rfl rfl, rn_low rfl (.vs _ _), rn_low rfl (.int _ _), trivial⟩ ⟨⟨_, rfl, rfl, .same _ _ _ _ (ltObj_es ⟨(lt_agg ⟨.int _ _, .int _ _, .vs _ _, trivial⟩), trivial⟩)⟩, trivial⟩
          · rintro s23 os23 _ _ _ hF hw
            unfold F_law04_TelegramDamage_L1 at hF
            refine vwp_weak hw ?_
            refine vwp_seq ?_
            refine vwp_seq ?_
            refine vwp_region ?_
            refine vops_rd (rd_mvI rfl) rfl ?_
            refine vops_rd (rd_mvV rfl) rfl ?_
            refine vops_rd (rd_to (rd_lenV rfl rfl te_29) (congrArg (fun n : Nat => PV.int .i64 (n : Int)) (List.length_map _))) rfl ?_
            refine vops_rd (rd_lss rfl rfl) rfl ?_
            refine vops_nil ?_
            refine vwp_cond rfl (fun c27 => ?_) (fun c27 => ?_)
            · have hF := bifT c27 hF
              refine vwp_skip ?_
              refine vwp_seq ?_
              refine vwp_block ?_
              refine vwp_seq ?_
              obtain ⟨x28, h29, hF⟩ := bnd hF
              refine vwp_drawn [[], [], [0, 1], [0, 1, 2], [0, 1, 2, 3], [0, 1, 2, 3, 4], [], [6], [6, 7], [0, 1, 2, 3, 4, 5, 6, 7, 8]] [false, false, false, false, false, false, false, false, false, false] [(low, [⟨24, 3, [.agg [.int .i64 x3.2.Address, .int .i64 x3.2.Kind, .vs 1 (List.map (PV.int .u8) x3.2.Data)]], 0⟩])] mixed (by kernel_rfl) rfl (lenAll (all1 rfl all0)) rfl (low, [⟨24, 3, [.agg [.int .i64 x3.2.Address, .int .i64 x3.2.Kind, .vs 1 (List.map (PV.int .u8) x3.2.Data)]], 0⟩]) rfl rfl ?_
              refine dops_rdW [(low, [⟨24, 3, [.agg [.int .i64 x3.2.Address, .int .i64 x3.2.Kind, .vs 1 (List.map (PV.int .u8) x3.2.Data)]], 0⟩])] rfl rfl (all1 (VRd.ntl (rd_mvV rfl)) all0) ?_
              refine dops_rdW [(low, [⟨24, 3, [.agg [.int .i64 x3.2.Address, .int .i64 x3.2.Kind, .vs 1 (List.map (PV.int .u8) x3.2.Data)]], 0⟩])] rfl rfl (all1 (VRd.ntl (rd_mvI rfl)) all0) ?_
              refine dops_rdW [(low, [⟨24, 3, [.agg [.int .i64 x3.2.Address, .int .i64 x3.2.Kind, .vs 1 (List.map (PV.int .u8) x3.2.Data)]], 0⟩])] rfl rfl (all1 (VRd.ntl (rd_to (rd_ixV rfl rfl h29 te_29 ts_24) (v' := .vptr [.int .i64 x28.Address, .int .i64 x28.Kind, .vs 1 (List.map (PV.int .u8) x28.Data)] 0) rfl)) all0) ?_
              refine dops_rdW [(low, [⟨24, 3, [.agg [.int .i64 x3.2.Address, .int .i64 x3.2.Kind, .vs 1 (List.map (PV.int .u8) x3.2.Data)]], 0⟩])] rfl rfl (all1 (VRd.ntl (rd_fieldVaddr rfl tf_24_2 ts_22 (by decide))) all0) ?_
              refine dops_rdW [(low, [⟨24, 3, [.agg [.int .i64 x3.2.Address, .int .i64 x3.2.Kind, .vs 1 (List.map (PV.int .u8) x3.2.Data)]], 0⟩])] rfl rfl (all1 (VRd.ntl (rd_loadV1 rfl ta_22 rfl)) all0) ?_
              refine dops_rdW [(low, [⟨24, 3, [.agg [.int .i64 x3.2.Address, .int .i64 x3.2.Kind, .vs 1 (List.map (PV.int .u8) x3.2.Data)]], 0⟩])] rfl rfl (all1 (VRd.ntl (rd_to (rd_lenV rfl rfl te_22) (congrArg (fun n : Nat => PV.int .i64 (n : Int)) (List.length_map _)))) all0) ?_
              refine dops_rdW [(low, [⟨24, 3, [.agg [.int .i64 x3.2.Address, .int .i64 x3.2.Kind, .vs 1 (List.map (PV.int .u8) x3.2.Data)]], 0⟩])] rfl rfl (all1 (VRd.ntl (rd_fieldAddr rfl tf_24_2 ts_22 (by decide))) all0) ?_
              refine dops_rdW [(low, [⟨24, 3, [.agg [.int .i64 x3.2.Address, .int .i64 x3.2.Kind, .vs 1 (List.map (PV.int .u8) x3.2.Data)]], 0⟩])] rfl rfl (all1 (VRd.ntl (rd_load1 rfl (getO_N rfl rfl) rfl ta_22 rfl)) all0) ?_
              refine dops_rdW [(low, [⟨24, 3, [.agg [.int .i64 x3.2.Address, .int .i64 x3.2.Kind, .vs 1 (List.map (PV.int .u8) x3.2.Data)]], 0⟩])] rfl rfl (all1 (VRd.ntl (rd_to (rd_lenV rfl rfl te_22) (congrArg (fun n : Nat => PV.int .i64 (n : Int)) (List.length_map _)))) all0) ?_
              refine dops_rdW [(low, [⟨24, 3, [.agg [.int .i64 x3.2.Address, .int .i64 x3.2.Kind, .vs 1 (List.map (PV.int .u8) x3.2.Data)]], 0⟩])] rfl rfl (all1 (VRd.ntl (rd_eql rfl rfl)) all0) ?_
              refine dops_nil ?_
              refine vwp_cond rfl (fun c30 => ?_) (fun c30 => ?_)
              · have hF := bifT c30 hF
                refine vwp_seq ?_
                refine vwp_region ?_
                refine vops_rd (rd_asB rfl) rfl ?_
                refine vops_nil ?_
                refine vwp_ret ?_
                obtain rfl := Option.some.inj hF
                refine onlyE ?_
                exact weak_pick rfl [] (by decide) ⟨rn_low rfl (.bool _), trivial⟩ trivial
              · have hF := bifF c30 hF
                refine vwp_skip ?_
                refine vwp_region ?_
                refine vops_rd (rd_mvI rfl) rfl ?_
                refine vops_rd (rd_add rfl rfl rfl) rfl ?_
                refine vops_rd (rd_asI rfl) rfl ?_
                refine vops_nil ?_
                obtain rfl := Option.some.inj hF
                refine onlyE ?_
                exact weak_sub ⟨rfl, rfl, rfl, trivial⟩
            · have hF := bifF c27 hF
              refine vwp_exit ?_
              obtain rfl := Option.some.inj hF
              refine onlyE ?_
              exact weak_pick rfl [] (by decide) trivial trivial
          · rcases o24 with j25 | j26
            · replace hF := elimL hF
              rintro _ _ _ _ ⟨rfl, hw⟩
              refine ⟨_, _, _, hw, ?_⟩
              obtain rfl := Option.some.inj hF
              refine fnR ?_
              exact weak_sub ⟨rfl, trivial⟩
            · replace hF := elimR hF
              rintro _ _ _ _ ⟨rfl, hw⟩
              refine ⟨_, _, _, hw, ?_⟩
              refine vwp_seq ?_
              refine vwp_region ?_
              obtain ⟨x31, h32, hF⟩ := bnd hF
              refine vops_efE (vef_callP rfl Try.call9 (F_law04_awake_ok h32 _)) rfl ?_
              refine vops_rd (rd_asB rfl) rfl ?_
              refine vops_nil ?_
              refine vwp_ret ?_
              obtain rfl := Option.some.inj hF
              refine fnR ?_
              exact weak_sub ⟨rfl, trivial⟩
  · rintro _ _ _ _ ⟨he, hw⟩
    refine ⟨_, _, _, hw, ?_⟩
    exact bodyQ_pure he [.bool r] ⟨rfl, trivial⟩ (.bool _) ⟨rfl, rfl⟩

theorem F_law04_TelegramCounts_ok {p0 : List Int} {p1 : List Int} {r : Bool} (hF : F_law04_TelegramCounts p0 p1 = some r) (low : List AObj) :
    VCalls Try.prog 8 [.vs 1 (List.map (PV.int .u8) p0), .vs 1 (List.map (PV.int .u8) p1)] low fun x low' => x = .bool r ∧ low' = low := by
  refine vcalls_of_body (nt := 58) (rs := [.tmp 4]) Try.func8 rfl rfl (Nat.le_of_ble_eq_true rfl) rfl ?_
  refine vwp_monoW (Q' := FnE (fun E' lw lc => Weak E' lw lc [(4, .bool r)] low [])) ?_ ?_
  · unfold F_law04_TelegramCounts at hF
    refine vwp_seq ?_
    refine vwp_region ?_
    refine vops_rd (rd_asB rfl) rfl ?_
    refine vops_nil ?_
    refine vwp_seq ?_
    refine vwp_seq ?_
    refine vwp_region ?_
    refine vops_rd (rd_mvV rfl) rfl ?_
    refine vops_rd (rd_to (rd_lenV rfl rfl te_22) (congrArg (fun n : Nat => PV.int .i64 (n : Int)) (List.length_map _))) rfl ?_
    refine vops_rd (rd_gtr rfl rfl) rfl ?_
    refine vops_nil ?_
    refine vwp_cond rfl (fun c1 => ?_) (fun c1 => ?_)
    · have hF := bifT c1 hF
      refine vwp_seq ?_
      refine vwp_region ?_
      obtain ⟨x2, h3, hF⟩ := bnd hF
      refine vops_efE (vef_callP rfl Try.call9 (F_law04_awake_ok h3 _)) rfl ?_
      refine vops_rd (rd_asB rfl) rfl ?_
      refine vops_nil ?_
      refine vwp_ret ?_
      obtain rfl := Option.some.inj hF
      refine fnR ?_
      exact weak_sub ⟨rfl, trivial⟩
    · have hF := bifF c1 hF
      refine vwp_skip ?_
      refine vwp_seq ?_
      refine vwp_seq ?_
      refine vwp_region ?_
      obtain ⟨x4, h5, hF⟩ := bnd hF
      obtain ⟨x6, h7, hF⟩ := bnd hF
      refine vops_rd (rd_mvV rfl) rfl ?_
      refine vops_efE (vef_callN (r := .ptr (low.length + 0) 0 0 0) (os := [⟨48, 2, [.agg [.vs 1 (List.map (PV.int .u8) x4.l), .int .i64 x4.at_]], 0⟩]) rfl Try.call10 (F_draw_New_ok h5 _ (len_app rfl rfl))) rfl ?_
      refine vops_efE (vef_callMN (k := 0) (loc1 := [⟨48, 2, [.agg [.vs 1 (List.map (PV.int .u8) x6.1.l), .int .i64 x6.1.at_]], 0⟩]) rfl rfl Try.call16 (F_draw_Codes_Bytes_ok h7 (get_N rfl rfl)) rfl) rfl ?_
      refine vops_rd (rd_mvV rfl) rfl ?_
      refine vops_efE (vef_litF (es := List.map (encS 1 (PV.int .u8)) [x6.2, p1]) ⟨rfl, rfl, rfl, rfl, trivial⟩ rfl rfl (nt_all rfl) te_38 ts_22 tz_22 rfl rfl (Nat.succ_pos _) (by decide) (lt_map (fun _ => .vs _ _))) rfl ?_
      refine vops_rd (rd_to (rd_lenV rfl rfl te_38) (congrArg (fun n : Nat => PV.int .i64 (n : Int)) (List.length_map _))) rfl ?_
      refine vops_rd (rd_mvI rfl) rfl ?_
      refine vops_nil ?_
      refine vwp_block ?_
      obtain ⟨o9, ho9, hF⟩ := bnd hF
      refine vwp_monoW (vwp_loopC (F_law04_TelegramCounts_L1 p1 x6) (fun s8 E' lw lc => Weak E' lw lc [(19, .vs 1 (List.map (encS 1 (PV.int .u8)) [x6.2, p1])), (20, .int .i64 (([x6.2, p1]).length : Int)), (21, .int .i64 s8)] low []) (Sum.elim (fun j10 => OnlyE .ret (fun E' lw lc => Weak E' lw lc [(4, .bool false)] low [])) (fun j11 => OnlyE (.exit 0) (fun E' lw lc => Weak E' lw lc [] low []))) ho9 ?_ (by rintro (_|_) _ _ _ ⟨h, _⟩ <;> cases h) ?_) ?_
      · exact weak_pick rfl [] (by decide) ⟨rn_low rfl (.vs _ _), rn_low rfl (.int _ _), rn_low rfl (.int _ _), trivial⟩ trivial
      · rintro s8 os8 _ _ _ hF hw
        unfold F_law04_TelegramCounts_L1 at hF
        refine vwp_weak hw ?_
        refine vwp_seq ?_
        refine vwp_region ?_
        refine vops_rd (rd_lss rfl rfl) rfl ?_
        refine vops_nil ?_
        refine vwp_seq ?_
        refine vwp_cond rfl (fun c12 => ?_) (fun c12 => ?_)
        · have hF := bifT c12 hF
          refine vwp_skip ?_
          refine vwp_seq ?_
          refine vwp_block ?_
          refine vwp_seq ?_
          refine vwp_region ?_
          obtain ⟨x13, h14, hF⟩ := bnd hF
          refine vops_rd (rd_to (rd_ixV rfl rfl h14 te_38 ts_22) (v' := .vptr [.vs 1 (List.map (PV.int .u8) x13)] 0) rfl) rfl ?_
          refine vops_rd (rd_loadV1 rfl ta_22 rfl) rfl ?_
          refine vops_rd (rd_asV rfl) rfl ?_
          refine vops_nil ?_
          refine vwp_seq ?_
          refine vwp_region ?_
          obtain ⟨x15, h16, hF⟩ := bnd hF
          refine vops_rd (rd_nc (rd_build (vs := []) (ds := [.nils, .int .i64 0]) tz_36 rfl rfl tp_36 trivial (nt_all2 rfl) rfl) (nc_agg (cs := [.nils, .int .i64 0]) (ds := [.vs 1 (List.map (PV.int .u8) ([] : List Int)), .int .i64 0]) rfl rfl ⟨nc_nil rfl rfl, nc_eq rfl, trivial⟩)) rfl ?_
          refine vops_rd (rd_mvV rfl) rfl ?_
          refine vops_efE (vef_callP rfl Try.call18 (F_telegram_Feed_ok h16 _)) rfl ?_
          refine vops_rd (rd_mvT rfl) rfl ?_
          refine vops_rd (rd_extract rfl rfl) rfl ?_
          refine vops_rd (rd_extract rfl rfl) rfl ?_
          refine vops_efE (vef_allocN rfl rfl tz_36 rfl rfl (Nat.succ_pos _) rfl) rfl ?_
          refine vops_efE (vef_store (p := .agg [.vs 1 (List.map (PV.int .u8) x15.1.Held), .int .i64 x15.1.Dropped]) (e' := .agg [.vs 1 (List.map (PV.int .u8) x15.1.Held), .int .i64 x15.1.Dropped]) rfl (getO_N rfl rfl) rfl rfl ts_36 rfl (nt_ne rfl) rfl (Nat.le_of_ble_eq_true rfl) rfl (setO_N rfl rfl)) rfl ?_
          refine vops_rd (rd_asV rfl) rfl ?_
          refine vops_nil ?_
          refine vwp_seq ?_
          refine vwp_region ?_
          refine vops_rd (rd_fieldAddr rfl tf_36_1 ts_3 (by decide)) rfl ?_
          refine vops_rd (rd_load1 rfl (getO_N rfl rfl) rfl ta_3 rfl) rfl ?_
          refine vops_rd (rd_fieldAddr rfl tf_36_0 ts_22 (by decide)) rfl ?_
          refine vops_rd (rd_load1 rfl (getO_N rfl rfl) rfl ta_22 rfl) rfl ?_
          refine vops_rd (rd_to (rd_lenV rfl rfl te_22) (congrArg (fun n : Nat => PV.int .i64 (n : Int)) (List.length_map _))) rfl ?_
          refine vops_rd (rd_add rfl rfl rfl) rfl ?_
          refine vops_rd (rd_asI rfl) rfl ?_
          refine vops_nil ?_
          refine vwp_seq ?_
          refine vwp_seq ?_
          refine vwp_region ?_
          refine vops_rd (rd_mvV rfl) rfl ?_
          refine vops_rd (rd_to (rd_lenV rfl rfl te_29) (congrArg (fun n : Nat => PV.int .i64 (n : Int)) (List.length_map _))) rfl ?_
          refine vops_rd (rd_mvI rfl) rfl ?_
          refine vops_nil ?_
          refine vwp_block ?_
          obtain ⟨o18, ho18, hF⟩ := bnd hF
          refine vwp_monoW (vwp_loopC (F_law04_TelegramCounts_L2 x15) (fun s17 E' lw lc => Weak E' lw lc [(6, .vs 1 (List.map (PV.int .u8) x13)), (8, .vs 3 (List.map T_Frame.enc x15.2)), (9, .int .i64 s17.1), (19, .vs 1 (List.map (encS 1 (PV.int .u8)) [x6.2, p1])), (20, .int .i64 (([x6.2, p1]).length : Int)), (21, .int .i64 s8), (38, .int .i64 ((x15.2).length : Int)), (39, .int .i64 s17.2)] low []) (fun o18 => OnlyE (.exit 2) (fun E' lw lc => Weak E' lw lc [(6, .vs 1 (List.map (PV.int .u8) x13)), (9, .int .i64 o18), (19, .vs 1 (List.map (encS 1 (PV.int .u8)) [x6.2, p1])), (20, .int .i64 (([x6.2, p1]).length : Int)), (21, .int .i64 s8)] low [])) ho18 ?_ (by rintro _ _ _ _ ⟨h, _⟩ <;> cases h) ?_) ?_
          · exact weak_pick rfl [] (by decide) ⟨rn_low rfl (.vs _ _), rn_low rfl (.vs _ _), rn_low rfl (.int _ _), rn_low rfl (.vs _ _), rn_low rfl (.int _ _), rn_low rfl (.int _ _), rn_low rfl (.int _ _), rn_low rfl (.int _ _), trivial⟩ trivial
          · rintro s17 os17 _ _ _ hF hw
            unfold F_law04_TelegramCounts_L2 at hF
            refine vwp_weak hw ?_
            refine vwp_seq ?_
            refine vwp_region ?_
            refine vops_rd (rd_lss rfl rfl) rfl ?_
            refine vops_nil ?_
            refine vwp_seq ?_
            refine vwp_cond rfl (fun c19 => ?_) (fun c19 => ?_)
            · have hF := bifT c19 hF
              refine vwp_skip ?_
              refine vwp_seq ?_
              refine vwp_block ?_
              refine vwp_seq ?_
              refine vwp_region ?_
              refine vops_rd (rd_mvI rfl) rfl ?_
              refine vops_rd (rd_asI rfl) rfl ?_
              refine vops_nil ?_
              refine vwp_region ?_
              obtain ⟨x20, h21, hF⟩ := bnd hF
              refine vops_rd (rd_mvI rfl) rfl ?_
              refine vops_rd (rd_mvV rfl) rfl ?_
              refine vops_rd (rd_mvI rfl) rfl ?_
              refine vops_rd (rd_to (rd_ixV rfl rfl h21 te_29 ts_24) (v' := .vptr [.int .i64 x20.Address, .int .i64 x20.Kind, .vs 1 (List.map (PV.int .u8) x20.Data)] 0) rfl) rfl ?_
              refine vops_rd (rd_fieldVaddr rfl tf_24_2 ts_22 (by decide)) rfl ?_
              refine vops_rd (rd_loadV1 rfl ta_22 rfl) rfl ?_
              refine vops_rd (rd_to (rd_lenV rfl rfl te_22) (congrArg (fun n : Nat => PV.int .i64 (n : Int)) (List.length_map _))) rfl ?_
              refine vops_rd (rd_add rfl rfl rfl) rfl ?_
              refine vops_rd (rd_add rfl rfl rfl) rfl ?_
              refine vops_rd (rd_asI rfl) rfl ?_
              refine vops_nil ?_
              refine vwp_region ?_
              refine vops_rd (rd_add rfl rfl rfl) rfl ?_
              refine vops_rd (rd_mvI rfl) rfl ?_
              refine vops_nil ?_
              obtain rfl := Option.some.inj hF
              refine onlyE ?_
              exact weak_sub ⟨rfl, rfl, rfl, rfl, rfl, rfl, rfl, rfl, trivial⟩
            · have hF := bifF c19 hF
              refine vwp_exit ?_
              obtain rfl := Option.some.inj hF
              refine onlyE ?_
              exact weak_sub ⟨rfl, rfl, rfl, rfl, rfl, trivial⟩
          · rintro _ _ _ _ ⟨rfl, hw⟩
            refine ⟨_, _, _, hw, ?_⟩
            refine vwp_seq ?_
            refine vwp_region ?_
            refine vops_rd (rd_mvI rfl) rfl ?_
            refine vops_rd (rd_mvV rfl) rfl ?_
            refine vops_rd (rd_to (rd_lenV rfl rfl te_22) (congrArg (fun n : Nat => PV.int .i64 (n : Int)) (List.length_map _))) rfl ?_
            refine vops_rd (rd_neq rfl rfl) rfl ?_
            refine vops_nil ?_
            refine vwp_cond rfl (fun c22 => ?_) (fun c22 => ?_)
            · have hF := bifT c22 hF
              refine vwp_seq ?_
              refine vwp_region ?_
              refine vops_rd (rd_asB rfl) rfl ?_
              refine vops_nil ?_
              refine vwp_ret ?_
              obtain rfl := Option.some.inj hF
              refine onlyE ?_
              exact weak_sub ⟨rfl, trivial⟩
            · have hF := bifF c22 hF
              refine vwp_skip ?_
              refine vwp_region ?_
              refine vops_rd (rd_add rfl rfl rfl) rfl ?_
              refine vops_rd (rd_mvI rfl) rfl ?_
              refine vops_nil ?_
              obtain rfl := Option.some.inj hF
              refine onlyE ?_
              exact weak_sub ⟨rfl, rfl, rfl, trivial⟩
        · have hF := bifF c12 hF
          refine vwp_exit ?_
          obtain rfl := Option.some.inj hF
          refine onlyE ?_
          exact weak_sub trivial
      · rcases o9 with j10 | j11
        · replace hF := elimL hF
          rintro _ _ _ _ ⟨rfl, hw⟩
          refine ⟨_, _, _, hw, ?_⟩
          obtain rfl := Option.some.inj hF
          refine fnR ?_
          exact weak_sub ⟨rfl, trivial⟩
        · replace hF := elimR hF
          rintro _ _ _ _ ⟨rfl, hw⟩
          refine ⟨_, _, _, hw, ?_⟩
          refine vwp_seq ?_
          refine vwp_region ?_
          obtain ⟨x23, h24, hF⟩ := bnd hF
          refine vops_efE (vef_callP rfl Try.call9 (F_law04_awake_ok h24 _)) rfl ?_
          refine vops_rd (rd_asB rfl) rfl ?_
          refine vops_nil ?_
          refine vwp_ret ?_
          obtain rfl := Option.some.inj hF
          refine fnR ?_
          exact weak_sub ⟨rfl, trivial⟩
  · rintro _ _ _ _ ⟨he, hw⟩
    refine ⟨_, _, _, hw, ?_⟩
    exact bodyQ_pure he [.bool r] ⟨rfl, trivial⟩ (.bool _) ⟨rfl, rfl⟩

end Go.Proofs.Yteaagckebpanbaa
