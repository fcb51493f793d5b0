/- Printed by wip/lift/lift.py: the walks that show that the program computes them. -/
import Derived.Test.YteaagckebpanbaaR04T
import Derived.Test.YteaagckebpanbaaAmlY
import Derived.Test.YteaagckebpanbaaL04D
namespace Go.Proofs.Yteaagckebpanbaa
open Go Go.Aml Go.L
attribute [local irreducible] VRd VEf VOp VOps VWp DOps
set_option linter.unusedVariables false
set_option maxHeartbeats 4000000

theorem mixed : Try.prog.follows .mixedOrders = true := by kernel_rfl


theorem F_telegram_Check_ok {p0 : List Int} {r : Int} (hF : F_telegram_Check p0 = some r) (low : List AObj) :
    VCalls Try.prog 14 [.vs 1 (List.map (PV.int .u8) p0)] low fun x low' => x = .int .i64 r ∧ low' = low := by
  refine vcalls_of_body (nt := 35) (rs := [.tmp 2]) Try.func14 rfl rfl (Nat.le_of_ble_eq_true rfl) rfl ?_
  refine vwp_monoW (Q' := FnE (fun E' lw lc => Weak E' lw lc [(2, .int .i64 r)] low [])) ?_ ?_
  · unfold F_telegram_Check at hF
    refine vwp_seq ?_
    refine vwp_region ?_
    refine vops_rd (rd_asI rfl) rfl ?_
    refine vops_nil ?_
    refine vwp_seq ?_
    refine vwp_region ?_
    refine vops_rd (rd_asI rfl) rfl ?_
    refine vops_nil ?_
    refine vwp_seq ?_
    refine vwp_seq ?_
    refine vwp_region ?_
    refine vops_rd (rd_mvV rfl) rfl ?_
    refine vops_rd (rd_to (rd_lenV rfl rfl te_22) (congrArg (fun n : Nat => PV.int .i64 (n : Int)) (List.length_map _))) rfl ?_
    refine vops_rd (rd_mvI rfl) rfl ?_
    refine vops_nil ?_
    refine vwp_block ?_
    obtain ⟨o2, ho2, hF⟩ := bnd hF
    refine vwp_monoW (vwp_loopC (F_telegram_Check_L1 p0) (fun s1 E' lw lc => Weak E' lw lc [(3, .int .i64 s1.1), (8, .vs 1 (List.map (PV.int .u8) p0)), (9, .int .i64 ((p0).length : Int)), (10, .int .i64 s1.2)] low []) (fun o2 => OnlyE (.exit 0) (fun E' lw lc => Weak E' lw lc [(3, .int .i64 o2)] low [])) ho2 ?_ (by rintro _ _ _ _ ⟨h, _⟩ <;> cases h) ?_) ?_
    · exact weak_sub ⟨rfl, rfl, rfl, rfl, trivial⟩
    · rintro s1 os1 _ _ _ hF hw
      unfold F_telegram_Check_L1 at hF
      refine vwp_weak hw ?_
      refine vwp_seq ?_
      refine vwp_region ?_
      refine vops_rd (rd_lss rfl rfl) rfl ?_
      refine vops_nil ?_
      refine vwp_seq ?_
      refine vwp_cond rfl (fun c3 => ?_) (fun c3 => ?_)
      · have hF := bifT c3 hF
        refine vwp_skip ?_
        refine vwp_seq ?_
        refine vwp_block ?_
        refine vwp_seq ?_
        refine vwp_region ?_
        obtain ⟨x4, h5, hF⟩ := bnd hF
        refine vops_rd (rd_to (rd_ixV rfl rfl h5 te_22 ts_5) (v' := .vptr [.int .u8 x4] 0) rfl) rfl ?_
        refine vops_rd (rd_loadV1 rfl ta_5 rfl) rfl ?_
        refine vops_rd (rd_asI rfl) rfl ?_
        refine vops_nil ?_
        refine vwp_seq ?_
        refine vwp_region ?_
        refine vops_rd (rd_asI rfl) rfl ?_
        refine vops_nil ?_
        refine vwp_block ?_
        obtain ⟨o7, ho7, hF⟩ := bnd hF
        refine vwp_monoW (vwp_loopC (F_telegram_Check_L2 x4) (fun s6 E' lw lc => Weak E' lw lc [(3, .int .i64 s6.1), (5, .int .u8 x4), (6, .int .i64 s6.2), (8, .vs 1 (List.map (PV.int .u8) p0)), (9, .int .i64 ((p0).length : Int)), (10, .int .i64 s1.2)] low []) (fun o7 => OnlyE (.exit 2) (fun E' lw lc => Weak E' lw lc [(3, .int .i64 o7), (8, .vs 1 (List.map (PV.int .u8) p0)), (9, .int .i64 ((p0).length : Int)), (10, .int .i64 s1.2)] low [])) ho7 ?_ (by rintro _ _ _ _ ⟨h, _⟩ <;> cases h) ?_) ?_
        · exact weak_sub ⟨rfl, rfl, rfl, rfl, rfl, rfl, trivial⟩
        · rintro s6 os6 _ _ _ hF hw
          unfold F_telegram_Check_L2 at hF
          refine vwp_weak hw ?_
          refine vwp_seq ?_
          refine vwp_seq ?_
          refine vwp_region ?_
          refine vops_rd (rd_mvI rfl) rfl ?_
          refine vops_rd (rd_geq rfl rfl) rfl ?_
          refine vops_nil ?_
          refine vwp_cond rfl (fun c8 => ?_) (fun c8 => ?_)
          · have hF := bifT c8 hF
            refine vwp_skip ?_
            refine vwp_seq ?_
            obtain ⟨o9, ho9, hF⟩ := bnd hF
            refine vwp_monoW (Q' := (fun o9 => OnlyE .normal (fun E' lw lc => Weak E' lw lc [(3, .int .i64 o9), (5, .int .u8 x4), (6, .int .i64 s6.2), (8, .vs 1 (List.map (PV.int .u8) p0)), (9, .int .i64 ((p0).length : Int)), (10, .int .i64 s1.2)] low [])) o9) ?_ ?_
            · replace hF := ho9
              refine vwp_block ?_
              refine vwp_seq ?_
              refine vwp_region ?_
              refine vops_rd (rd_mvI rfl) rfl ?_
              refine vops_rd (rd_shrC (c := 32768) rfl rfl (by decide) rfl (by decide)) rfl ?_
              refine vops_rd (rd_asI rfl) rfl ?_
              refine vops_nil ?_
              refine vwp_seq ?_
              refine vwp_region ?_
              refine vops_rd (rd_mvI rfl) rfl ?_
              refine vops_rd (rd_shlC (c := 2) rfl rfl (by decide) rfl rfl) rfl ?_
              refine vops_rd (rd_and rfl rfl rfl) rfl ?_
              refine vops_rd (rd_asI rfl) rfl ?_
              refine vops_nil ?_
              refine vwp_seq ?_
              refine vwp_region ?_
              obtain ⟨x10, h11, hF⟩ := bnd hF
              refine vops_rd (rd_mvI rfl) rfl ?_
              refine vops_rd (rd_mvI rfl) rfl ?_
              refine vops_rd (rd_mvI rfl) rfl ?_
              refine vops_rd (rd_conv rfl us_3 ti_49 rfl) rfl ?_
              refine vops_rd (rd_shr rfl rfl (shrI_some h11).1 (shrI_some h11).2) rfl ?_
              refine vops_rd (rd_conv rfl us_5 ti_3 rfl) rfl ?_
              refine vops_rd (rd_and rfl rfl rfl) rfl ?_
              refine vops_rd (rd_neq rfl rfl) rfl ?_
              refine vops_nil ?_
              refine vwp_cond rfl (fun c12 => ?_) (fun c12 => ?_)
              · have hF := bifT c12 hF
                refine vwp_region ?_
                refine vops_rd (rd_mvI rfl) rfl ?_
                refine vops_rd (rd_xor rfl rfl rfl) rfl ?_
                refine vops_rd (rd_asI rfl) rfl ?_
                refine vops_nil ?_
                obtain rfl := Option.some.inj hF
                refine onlyE ?_
                exact weak_sub ⟨rfl, rfl, rfl, rfl, rfl, rfl, trivial⟩
              · have hF := bifF c12 hF
                refine vwp_skip ?_
                obtain rfl := Option.some.inj hF
                refine onlyE ?_
                exact weak_sub ⟨rfl, rfl, rfl, rfl, rfl, rfl, trivial⟩
            · rintro _ _ _ _ ⟨rfl, hw⟩
              refine ⟨_, _, _, hw, ?_⟩
              refine vwp_region ?_
              refine vops_rd (rd_mvI rfl) rfl ?_
              refine vops_rd (rd_sub rfl rfl rfl) rfl ?_
              refine vops_rd (rd_asI rfl) rfl ?_
              refine vops_nil ?_
              obtain rfl := Option.some.inj hF
              refine onlyE ?_
              exact weak_sub ⟨rfl, rfl, rfl, rfl, rfl, rfl, trivial⟩
          · have hF := bifF c8 hF
            refine vwp_exit ?_
            obtain rfl := Option.some.inj hF
            refine onlyE ?_
            exact weak_sub ⟨rfl, rfl, rfl, rfl, trivial⟩
        · rintro _ _ _ _ ⟨rfl, hw⟩
          refine ⟨_, _, _, hw, ?_⟩
          refine vwp_region ?_
          refine vops_rd (rd_add rfl rfl rfl) rfl ?_
          refine vops_rd (rd_mvI rfl) rfl ?_
          refine vops_nil ?_
          obtain rfl := Option.some.inj hF
          refine onlyE ?_
          exact weak_sub ⟨rfl, rfl, rfl, rfl, trivial⟩
      · have hF := bifF c3 hF
        refine vwp_exit ?_
        obtain rfl := Option.some.inj hF
        refine onlyE ?_
        exact weak_sub ⟨rfl, trivial⟩
    · rintro _ _ _ _ ⟨rfl, hw⟩
      refine ⟨_, _, _, hw, ?_⟩
      refine vwp_seq ?_
      refine vwp_region ?_
      refine vops_rd (rd_mvI rfl) rfl ?_
      refine vops_rd (rd_asI rfl) rfl ?_
      refine vops_nil ?_
      refine vwp_ret ?_
      obtain rfl := Option.some.inj hF
      refine fnR ?_
      exact weak_sub ⟨rfl, trivial⟩
  · rintro _ _ _ _ ⟨he, hw⟩
    refine ⟨_, _, _, hw, ?_⟩
    exact bodyQ_pure he [.int .i64 r] ⟨rfl, trivial⟩ (.int _ _) ⟨rfl, rfl⟩

theorem F_telegram_Write_ok {p0 : T_Frame} {r : List Int × Int} (hF : F_telegram_Write p0 = some r) (low : List AObj) :
    VCalls Try.prog 12 [.agg [.int .i64 p0.Address, .int .i64 p0.Kind, .vs 1 (List.map (PV.int .u8) p0.Data)]] low fun x low' => x = .tup [.vs 1 (List.map (PV.int .u8) r.1), .int .i64 r.2] ∧ low' = low := by
  refine vcalls_of_body (nt := 53) (rs := [.tmp 2, .tmp 3]) Try.func12 rfl rfl (Nat.le_of_ble_eq_true rfl) rfl ?_
  refine vwp_monoW (Q' := FnE (fun E' lw lc => Weak E' lw lc [(2, .vs 1 (List.map (PV.int .u8) r.1)), (3, .int .i64 r.2)] low [])) ?_ ?_
  · unfold F_telegram_Write at hF
    refine vwp_seq ?_
    refine vwp_region ?_
    refine vops_efE (vef_boxN rfl rfl (v := .agg [.int .i64 p0.Address, .int .i64 p0.Kind, .vs 1 (List.map (PV.int .u8) p0.Data)]) rfl rfl (Nat.succ_pos _) rfl rfl) rfl ?_
    refine vops_rd (rd_nv (sz := 1) (rd_asN rfl)) rfl ?_
    refine vops_rd (rd_asI rfl) rfl ?_
    refine vops_nil ?_
    refine vwp_seq ?_
    refine vwp_seq ?_
    obtain ⟨o1, ho1, hF⟩ := bnd hF
    refine vwp_monoW (Q' := (fun o1 => OnlyE .normal (fun E' lw lc => Weak E' lw lc [(1, .ptr (low.length + 0) 0 0 0), (23, .bool o1)] low [⟨24, 3, [.agg [.int .i64 p0.Address, .int .i64 p0.Kind, .vs 1 (List.map (PV.int .u8) p0.Data)]], 0⟩])) o1) ?_ ?_
    · replace hF := ho1
      refine vwp_region ?_
      rcases Bool.eq_false_or_eq_true (decide (p0.Address < 0)) with c2 | c2
      · have hF := bifT c2 hF
        refine vops_rd (rd_fieldAddr rfl tf_24_0 ts_3 (by decide)) rfl ?_
        refine vops_rd (rd_load1 rfl (getO_N rfl rfl) rfl ta_3 rfl) rfl ?_
        refine vops_rd (rd_lss rfl rfl) rfl ?_
        refine vops_rd (rd_mvB rfl) rfl ?_
        refine vops_skip rfl rfl (neT c2) rfl ?_
        refine vops_skip rfl rfl (neT c2) rfl ?_
        refine vops_skip rfl rfl (neT c2) rfl ?_
        refine vops_rd (rd_pickT (congrArg PV.bool c2) rfl) rfl ?_
        refine vops_rd (rd_mvB rfl) rfl ?_
        refine vops_skip rfl rfl (by decide) rfl ?_
        refine vops_skip rfl rfl (by decide) rfl ?_
        refine vops_skip rfl rfl (by decide) rfl ?_
        refine vops_rd (rd_pickT rfl rfl) rfl ?_
        refine vops_rd (rd_mvB rfl) rfl ?_
        refine vops_skip rfl rfl (by decide) rfl ?_
        refine vops_skip rfl rfl (by decide) rfl ?_
        refine vops_skip rfl rfl (by decide) rfl ?_
        refine vops_rd (rd_pickT rfl rfl) rfl ?_
        refine vops_nil ?_
        obtain rfl := Option.some.inj hF
        refine onlyE ?_
        exact weak_sub ⟨rfl, rfl, trivial⟩
      · have hF := bifF c2 hF
        rcases Bool.eq_false_or_eq_true (decide (255 < p0.Address)) with c3 | c3
        · have hF := bifT c3 hF
          refine vops_rd (rd_fieldAddr rfl tf_24_0 ts_3 (by decide)) rfl ?_
          refine vops_rd (rd_load1 rfl (getO_N rfl rfl) rfl ta_3 rfl) rfl ?_
          refine vops_rd (rd_lss rfl rfl) rfl ?_
          refine vops_rd (rd_mvB rfl) rfl ?_
          refine vops_take rfl (congrArg PV.bool c2) ?_
          refine vops_rd (rd_fieldAddr rfl tf_24_0 ts_3 (by decide)) rfl ?_
          refine vops_take rfl (congrArg PV.bool c2) ?_
          refine vops_rd (rd_load1 rfl (getO_N rfl rfl) rfl ta_3 rfl) rfl ?_
          refine vops_take rfl (congrArg PV.bool c2) ?_
          refine vops_rd (rd_gtr rfl rfl) rfl ?_
          refine vops_rd (rd_pickF (congrArg PV.bool c2) rfl) rfl ?_
          refine vops_rd (rd_mvB rfl) rfl ?_
          refine vops_skip rfl rfl (neT c3) rfl ?_
          refine vops_skip rfl rfl (neT c3) rfl ?_
          refine vops_skip rfl rfl (neT c3) rfl ?_
          refine vops_rd (rd_pickT (congrArg PV.bool c3) rfl) rfl ?_
          refine vops_rd (rd_mvB rfl) rfl ?_
          refine vops_skip rfl rfl (by decide) rfl ?_
          refine vops_skip rfl rfl (by decide) rfl ?_
          refine vops_skip rfl rfl (by decide) rfl ?_
          refine vops_rd (rd_pickT rfl rfl) rfl ?_
          refine vops_nil ?_
          obtain rfl := Option.some.inj hF
          refine onlyE ?_
          exact weak_sub ⟨rfl, rfl, trivial⟩
        · have hF := bifF c3 hF
          rcases Bool.eq_false_or_eq_true (decide (p0.Kind < 0)) with c4 | c4
          · have hF := bifT c4 hF
            refine vops_rd (rd_fieldAddr rfl tf_24_0 ts_3 (by decide)) rfl ?_
            refine vops_rd (rd_load1 rfl (getO_N rfl rfl) rfl ta_3 rfl) rfl ?_
            refine vops_rd (rd_lss rfl rfl) rfl ?_
            refine vops_rd (rd_mvB rfl) rfl ?_
            refine vops_take rfl (congrArg PV.bool c2) ?_
            refine vops_rd (rd_fieldAddr rfl tf_24_0 ts_3 (by decide)) rfl ?_
            refine vops_take rfl (congrArg PV.bool c2) ?_
            refine vops_rd (rd_load1 rfl (getO_N rfl rfl) rfl ta_3 rfl) rfl ?_
            refine vops_take rfl (congrArg PV.bool c2) ?_
            refine vops_rd (rd_gtr rfl rfl) rfl ?_
            refine vops_rd (rd_pickF (congrArg PV.bool c2) rfl) rfl ?_
            refine vops_rd (rd_mvB rfl) rfl ?_
            refine vops_take rfl (congrArg PV.bool c3) ?_
            refine vops_rd (rd_fieldAddr rfl tf_24_1 ts_3 (by decide)) rfl ?_
            refine vops_take rfl (congrArg PV.bool c3) ?_
            refine vops_rd (rd_load1 rfl (getO_N rfl rfl) rfl ta_3 rfl) rfl ?_
            refine vops_take rfl (congrArg PV.bool c3) ?_
            refine vops_rd (rd_lss rfl rfl) rfl ?_
            refine vops_rd (rd_pickF (congrArg PV.bool c3) rfl) rfl ?_
            refine vops_rd (rd_mvB rfl) rfl ?_
            refine vops_skip rfl rfl (neT c4) rfl ?_
            refine vops_skip rfl rfl (neT c4) rfl ?_
            refine vops_skip rfl rfl (neT c4) rfl ?_
            refine vops_rd (rd_pickT (congrArg PV.bool c4) rfl) rfl ?_
            refine vops_nil ?_
            obtain rfl := Option.some.inj hF
            refine onlyE ?_
            exact weak_sub ⟨rfl, rfl, trivial⟩
          · have hF := bifF c4 hF
            refine vops_rd (rd_fieldAddr rfl tf_24_0 ts_3 (by decide)) rfl ?_
            refine vops_rd (rd_load1 rfl (getO_N rfl rfl) rfl ta_3 rfl) rfl ?_
            refine vops_rd (rd_lss rfl rfl) rfl ?_
            refine vops_rd (rd_mvB rfl) rfl ?_
            refine vops_take rfl (congrArg PV.bool c2) ?_
            refine vops_rd (rd_fieldAddr rfl tf_24_0 ts_3 (by decide)) rfl ?_
            refine vops_take rfl (congrArg PV.bool c2) ?_
            refine vops_rd (rd_load1 rfl (getO_N rfl rfl) rfl ta_3 rfl) rfl ?_
            refine vops_take rfl (congrArg PV.bool c2) ?_
            refine vops_rd (rd_gtr rfl rfl) rfl ?_
            refine vops_rd (rd_pickF (congrArg PV.bool c2) rfl) rfl ?_
            refine vops_rd (rd_mvB rfl) rfl ?_
            refine vops_take rfl (congrArg PV.bool c3) ?_
            refine vops_rd (rd_fieldAddr rfl tf_24_1 ts_3 (by decide)) rfl ?_
            refine vops_take rfl (congrArg PV.bool c3) ?_
            refine vops_rd (rd_load1 rfl (getO_N rfl rfl) rfl ta_3 rfl) rfl ?_
            refine vops_take rfl (congrArg PV.bool c3) ?_
            refine vops_rd (rd_lss rfl rfl) rfl ?_
            refine vops_rd (rd_pickF (congrArg PV.bool c3) rfl) rfl ?_
            refine vops_rd (rd_mvB rfl) rfl ?_
            refine vops_take rfl (congrArg PV.bool c4) ?_
            refine vops_rd (rd_fieldAddr rfl tf_24_1 ts_3 (by decide)) rfl ?_
            refine vops_take rfl (congrArg PV.bool c4) ?_
            refine vops_rd (rd_load1 rfl (getO_N rfl rfl) rfl ta_3 rfl) rfl ?_
            refine vops_take rfl (congrArg PV.bool c4) ?_
            refine vops_rd (rd_gtr rfl rfl) rfl ?_
            refine vops_rd (rd_pickF (congrArg PV.bool c4) rfl) rfl ?_
            refine vops_nil ?_
            obtain rfl := Option.some.inj hF
            refine onlyE ?_
            exact weak_sub ⟨rfl, rfl, trivial⟩
    · rintro _ _ _ _ ⟨rfl, hw⟩
      refine ⟨_, _, _, hw, ?_⟩
      refine vwp_cond rfl (fun c5 => ?_) (fun c5 => ?_)
      · have hF := bifT c5 hF
        refine vwp_seq ?_
        refine vwp_region ?_
        refine vops_rd (rd_nv (sz := 1) (rd_asN rfl)) rfl ?_
        refine vops_rd (rd_asI rfl) rfl ?_
        refine vops_nil ?_
        refine vwp_ret ?_
        obtain rfl := Option.some.inj hF
        refine fnR ?_
        exact weak_pick rfl [] (by decide) ⟨rn_low rfl (.vs _ _), rn_low rfl (.int _ _), trivial⟩ trivial
      · have hF := bifF c5 hF
        refine vwp_skip ?_
        refine vwp_seq ?_
        refine vwp_seq ?_
        refine vwp_region ?_
        refine vops_rd (rd_fieldAddr rfl tf_24_2 ts_22 (by decide)) rfl ?_
        refine vops_rd (rd_load1 rfl (getO_N rfl rfl) rfl ta_22 rfl) rfl ?_
        refine vops_rd (rd_to (rd_lenV rfl rfl te_22) (congrArg (fun n : Nat => PV.int .i64 (n : Int)) (List.length_map _))) rfl ?_
        refine vops_rd (rd_gtr rfl rfl) rfl ?_
        refine vops_nil ?_
        refine vwp_cond rfl (fun c6 => ?_) (fun c6 => ?_)
        · have hF := bifT c6 hF
          refine vwp_seq ?_
          refine vwp_region ?_
          refine vops_rd (rd_nv (sz := 1) (rd_asN rfl)) rfl ?_
          refine vops_rd (rd_asI rfl) rfl ?_
          refine vops_nil ?_
          refine vwp_ret ?_
          obtain rfl := Option.some.inj hF
          refine fnR ?_
          exact weak_pick rfl [] (by decide) ⟨rn_low rfl (.vs _ _), rn_low rfl (.int _ _), trivial⟩ trivial
        · have hF := bifF c6 hF
          refine vwp_skip ?_
          refine vwp_seq ?_
          refine vwp_region ?_
          obtain ⟨x7, h8, hF⟩ := bnd hF
          refine vops_rd (rd_fieldAddr rfl tf_24_2 ts_22 (by decide)) rfl ?_
          refine vops_rd (rd_load1 rfl (getO_N rfl rfl) rfl ta_22 rfl) rfl ?_
          refine vops_rd (rd_to (rd_lenV rfl rfl te_22) (congrArg (fun n : Nat => PV.int .i64 (n : Int)) (List.length_map _))) rfl ?_
          refine vops_rd (rd_conv rfl us_3 ti_5 rfl) rfl ?_
          refine vops_rd (rd_fieldAddr rfl tf_24_0 ts_3 (by decide)) rfl ?_
          refine vops_rd (rd_load1 rfl (getO_N rfl rfl) rfl ta_3 rfl) rfl ?_
          refine vops_rd (rd_conv rfl us_3 ti_5 rfl) rfl ?_
          refine vops_rd (rd_fieldAddr rfl tf_24_1 ts_3 (by decide)) rfl ?_
          refine vops_rd (rd_load1 rfl (getO_N rfl rfl) rfl ta_3 rfl) rfl ?_
          refine vops_rd (rd_conv rfl us_3 ti_5 rfl) rfl ?_
          refine vops_efE (vef_litN rfl rfl (es := List.map (PV.int .u8) [126, (IntKind.u8.wrap ((p0.Data).length : Int)), (IntKind.u8.wrap p0.Address), (IntKind.u8.wrap p0.Kind)]) ⟨rfl, rfl, rfl, rfl, rfl, rfl, rfl, rfl, trivial⟩ rfl rfl (nt_all rfl) te_22 ts_5 tz_5 rfl rfl (Nat.succ_pos _) (by decide)) rfl ?_
          refine vops_rd (rd_fieldAddr rfl tf_24_2 ts_22 (by decide)) rfl ?_
          refine vops_rd (rd_load1 rfl (getO_N rfl rfl) rfl ta_22 rfl) rfl ?_
          refine vops_efE (vef_apL (f := (PV.int .u8)) (l := [126, (IntKind.u8.wrap ((p0.Data).length : Int)), (IntKind.u8.wrap p0.Address), (IntKind.u8.wrap p0.Kind)]) (ys := p0.Data) rfl rfl (getO_N rfl rfl) rfl (src_vs rfl) te_22 ts_5 tb_5 (by decide) tz_5 rfl h8 (setO_N rfl rfl)) rfl ?_
          refine vops_rd (rd_asL rfl) rfl ?_
          refine vops_nil ?_
          refine vwp_seq ?_
          refine vwp_region ?_
          obtain ⟨x9, h10, hF⟩ := bnd hF
          obtain ⟨x11, h12, hF⟩ := bnd hF
          refine vops_rd (rd_mvL rfl) rfl ?_
          refine vops_rd (rd_slS rfl rfl (getO_N rfl rfl) te_22 ts_5 ⟨_, rfl⟩ rfl h10) rfl ?_
          refine vops_efE (vef_callB (vs := [.vs 1 (List.map (PV.int .u8) x9)]) rfl Try.call14 ⟨view_sl rfl (getO_N rfl rfl) rfl rfl (lt_map (fun _ => .int _ _)) (sub_take h10), trivial⟩ ((F_telegram_Check_ok h12 []).mono fun _ _ h => h.1) (.int _ _)) rfl ?_
          refine vops_rd (rd_asI rfl) rfl ?_
          refine vops_nil ?_
          refine vwp_seq ?_
          refine vwp_region ?_
          obtain ⟨x13, h14, hF⟩ := bnd hF
          refine vops_rd (rd_mvL rfl) rfl ?_
          refine vops_rd (rd_mvI rfl) rfl ?_
          refine vops_rd (rd_shrC (c := 256) rfl rfl (by decide) rfl (by decide)) rfl ?_
          refine vops_rd (rd_conv rfl us_3 ti_5 rfl) rfl ?_
          refine vops_rd (rd_mvI rfl) rfl ?_
          refine vops_rd (rd_conv rfl us_3 ti_5 rfl) rfl ?_
          refine vops_efE (vef_litF (es := List.map (PV.int .u8) [(IntKind.u8.wrap (x11 / 256)), (IntKind.u8.wrap x11)]) ⟨rfl, rfl, rfl, rfl, trivial⟩ rfl rfl (nt_all rfl) te_22 ts_5 tz_5 rfl rfl (Nat.succ_pos _) (by decide) (lt_map (fun _ => .int _ _))) rfl ?_
          refine vops_efE (vef_apL (f := (PV.int .u8)) (l := x7) (ys := [(IntKind.u8.wrap (x11 / 256)), (IntKind.u8.wrap x11)]) rfl rfl (getO_N rfl rfl) rfl (src_vs rfl) te_22 ts_5 tb_5 (by decide) tz_5 rfl h14 (setO_N rfl rfl)) rfl ?_
          refine vops_rd (rd_asL rfl) rfl ?_
          refine vops_rd (rd_asI rfl) rfl ?_
          refine vops_nil ?_
          refine vwp_ret ?_
          obtain rfl := Option.some.inj hF
          refine fnR ?_
          refine Weak.trans (weak_freezeN (E' := [(2, .vs 1 (List.map (PV.int .u8) x13)), (3, .int .i64 0)]) (loc1 := [⟨24, 3, [.agg [.int .i64 p0.Address, .int .i64 p0.Kind, .vs 1 (List.map (PV.int .u8) p0.Data)]], 0⟩, ⟨5, 1, [], ((0 + 1) + 1) + 1⟩]) rfl 1 rfl (lt_map (fun _ => .int _ _)) ⟨cv_sl rfl rfl rfl (full_take rfl), cv_same rfl, trivial⟩ ⟨.refl _, .refl _, trivial⟩) ?_
          exact weak_pick rfl [] (by decide) ⟨rn_low rfl (.vs _ _), rn_low rfl (.int _ _), trivial⟩ trivial
  · rintro _ _ _ _ ⟨he, hw⟩
    refine ⟨_, _, _, hw, ?_⟩
    exact bodyQ_pure he [.vs 1 (List.map (PV.int .u8) r.1), .int .i64 r.2] ⟨rfl, rfl, trivial⟩ ((lt_tup ⟨.vs _ _, .int _ _, trivial⟩)) ⟨rfl, rfl⟩

theorem F_telegram_Feed_ok {p0 : T_Reader} {p1 : List Int} {r : T_Reader × List T_Frame} (hF : F_telegram_Feed p0 p1 = some r) (low : List AObj) :
    VCalls Try.prog 18 [.agg [.vs 1 (List.map (PV.int .u8) p0.Held), .int .i64 p0.Dropped], .vs 1 (List.map (PV.int .u8) p1)] low fun x low' => x = .tup [.agg [.vs 1 (List.map (PV.int .u8) r.1.Held), .int .i64 r.1.Dropped], .vs 3 (List.map T_Frame.enc r.2)] ∧ low' = low := by
  refine vcalls_of_body (nt := 107) (rs := [.cell 4 36, .tmp 5]) Try.func18 rfl rfl (Nat.le_of_ble_eq_true rfl) rfl ?_
  refine vwp_monoW (Q' := FnE (fun E' lw lc => Weak E' lw lc [(4, .ptr (low.length + 0) 0 0 0), (5, .vs 3 (List.map T_Frame.enc r.2))] low [⟨36, 2, [.agg [.vs 1 (List.map (PV.int .u8) r.1.Held), .int .i64 r.1.Dropped]], 0⟩])) ?_ ?_
  · unfold F_telegram_Feed at hF
    refine vwp_seq ?_
    refine vwp_region ?_
    refine vops_efE (vef_boxN rfl rfl (v := .agg [.vs 1 (List.map (PV.int .u8) p0.Held), .int .i64 p0.Dropped]) rfl rfl (Nat.succ_pos _) rfl rfl) rfl ?_
    refine vops_efE (vef_allocN rfl rfl tz_36 rfl rfl (Nat.succ_pos _) rfl) rfl ?_
    refine vops_rd (rd_nv (sz := 3) (rd_asN rfl)) rfl ?_
    refine vops_nil ?_
    refine vwp_seq ?_
    refine vwp_region ?_
    obtain ⟨x1, h2, hF⟩ := bnd hF
    obtain ⟨x3, h4, hF⟩ := bnd hF
    refine vops_rd (rd_fieldAddr rfl tf_36_0 ts_22 (by decide)) rfl ?_
    refine vops_rd (rd_load1 rfl (getO_N rfl rfl) rfl ta_22 rfl) rfl ?_
    refine vops_efE (vef_ap0N (f := (PV.int .u8)) (ys := p0.Held) rfl rfl (.inl rfl) rfl (src_vs rfl) (Nat.succ_pos _) te_22 ts_5 tb_5 (by decide) tz_5 rfl h2) rfl ?_
    refine vops_rd (rd_mvV rfl) rfl ?_
    refine vops_efE (vef_apL (f := (PV.int .u8)) (l := x1) (ys := p1) rfl rfl (getO_N rfl rfl) rfl (src_vs rfl) te_22 ts_5 tb_5 (by decide) tz_5 rfl h4 (setO_N rfl rfl)) rfl ?_
    refine vops_rd (rd_asL rfl) rfl ?_
    refine vops_nil ?_
    refine vwp_seq ?_
    refine vwp_region ?_
    refine vops_efE (vef_nilsN rfl rfl 24 3 (Nat.succ_pos _) (rd_asN rfl)) rfl ?_
    refine vops_nil ?_
    refine vwp_seq ?_
    refine vwp_region ?_
    refine vops_rd (rd_fieldAddr rfl tf_36_1 ts_3 (by decide)) rfl ?_
    refine vops_rd (rd_load1 rfl (getO_N rfl rfl) rfl ta_3 rfl) rfl ?_
    refine vops_rd (rd_asI rfl) rfl ?_
    refine vops_nil ?_
    refine vwp_seq ?_
    refine vwp_block ?_
    obtain ⟨o6, ho6, hF⟩ := bnd hF
    refine vwp_monoW (vwp_loopC F_telegram_Feed_L1 (fun s5 E' lw lc => Weak E' lw lc [(4, .ptr (low.length + 0) 0 0 0), (6, .vs 1 (List.map (PV.int .u8) s5.1)), (7, .sl (low.length + 1) 0 0 (s5.2.2).length), (8, .int .i64 s5.2.1)] low [⟨36, 2, [.agg [.nils, .int .i64 0]], 0⟩, ⟨24, 3, List.map T_Frame.enc s5.2.2, 0⟩]) (fun o6 => OnlyE (.exit 0) (fun E' lw lc => Weak E' lw lc [(4, .ptr (low.length + 0) 0 0 0), (6, .vs 1 (List.map (PV.int .u8) o6.1)), (7, .sl (low.length + 1) 0 0 (o6.2.2).length), (8, .int .i64 o6.2.1)] low [⟨36, 2, [.agg [.nils, .int .i64 0]], 0⟩, ⟨24, 3, List.map T_Frame.enc o6.2.2, 0⟩])) ho6 ?_ (by rintro _ _ _ _ ⟨h, _⟩ <;> cases h) ?_) ?_
    · refine Weak.trans (weak_freezeN (E' := [(4, .ptr (low.length + 1) 0 0 0), (6, .vs 1 (List.map (PV.int .u8) x3)), (7, .sl (low.length + 3) 0 0 (([] : List T_Frame)).length), (8, .int .i64 p0.Dropped)]) (loc1 := [⟨36, 2, [.agg [.vs 1 (List.map (PV.int .u8) p0.Held), .int .i64 p0.Dropped]], 0⟩, ⟨36, 2, [.agg [.nils, .int .i64 0]], 0⟩, ⟨5, 1, [], (0 + 1) + 1⟩, ⟨24, 3, List.map T_Frame.enc ([] : List T_Frame), 0⟩]) rfl 2 rfl (lt_map (fun _ => .int _ _)) ⟨cv_same rfl, cv_sl rfl rfl rfl (full_take rfl), cv_same rfl, cv_same rfl, trivial⟩ ⟨.refl _, .refl _, .refl _, .refl _, trivial⟩) ?_
      exact weak_pick rfl [(1, 0), (3, 0)] (by decide) ⟨rn_ptr 0 1 rfl rfl, rn_low rfl (.vs _ _), rn_sl 1 3 rfl rfl, rn_low rfl (.int _ _), trivial⟩ ⟨⟨_, rfl, rfl, .same _ _ _ _ (ltObj_es ⟨(lt_agg ⟨.nils, .int _ _, trivial⟩), trivial⟩)⟩, ⟨_, rfl, rfl, .same _ _ _ _ (ltObj_es trivial)⟩, trivial⟩
    · rintro s5 os5 _ _ _ hF hw
      unfold F_telegram_Feed_L1 at hF
      refine vwp_weak hw ?_
      refine vwp_seq ?_
      refine vwp_seq ?_
      refine vwp_region ?_
      refine vops_rd (rd_mvV rfl) rfl ?_
      refine vops_rd (rd_to (rd_lenV rfl rfl te_22) (congrArg (fun n : Nat => PV.int .i64 (n : Int)) (List.length_map _))) rfl ?_
      refine vops_rd (rd_gtr rfl rfl) rfl ?_
      refine vops_nil ?_
      refine vwp_cond rfl (fun c7 => ?_) (fun c7 => ?_)
      · have hF := bifT c7 hF
        refine vwp_skip ?_
        refine vwp_block ?_
        refine vwp_seq ?_
        refine vwp_seq ?_
        obtain ⟨o8, ho8, hF⟩ := bnd hF
        refine vwp_monoW (Q' := (fun o8 => OnlyE .normal (fun E' lw lc => Weak E' lw lc [(4, .ptr (low.length + 0) 0 0 0), (6, .vs 1 (List.map (PV.int .u8) s5.1)), (7, .sl (low.length + 1) 0 0 (s5.2.2).length), (8, .int .i64 s5.2.1), (35, .bool o8)] low [⟨36, 2, [.agg [.nils, .int .i64 0]], 0⟩, ⟨24, 3, List.map T_Frame.enc s5.2.2, 0⟩])) o8) ?_ ?_
        · replace hF := ho8
          refine vwp_region ?_
          obtain ⟨x9, h10, hF⟩ := bnd hF
          rcases Bool.eq_false_or_eq_true (decide (x9 ≠ 126)) with c11 | c11
          · have hF := bifT c11 hF
            refine vops_rd (rd_mvV rfl) rfl ?_
            refine vops_rd (rd_to (rd_ixV rfl rfl h10 te_22 ts_5) (v' := .vptr [.int .u8 x9] 0) rfl) rfl ?_
            refine vops_rd (rd_loadV1 rfl ta_5 rfl) rfl ?_
            refine vops_rd (rd_neq rfl rfl) rfl ?_
            refine vops_rd (rd_mvB rfl) rfl ?_
            refine vops_skip rfl rfl (neT c11) rfl ?_
            refine vops_skip rfl rfl (neT c11) rfl ?_
            refine vops_skip rfl rfl (neT c11) rfl ?_
            refine vops_skip rfl rfl (neT c11) rfl ?_
            refine vops_skipX rfl rfl rfl ?_
            refine vops_skipX rfl rfl rfl ?_
            refine vops_skipX rfl rfl rfl ?_
            refine vops_skipX rfl rfl rfl ?_
            refine vops_skipX rfl rfl rfl ?_
            refine vops_skip rfl rfl (neT c11) rfl ?_
            refine vops_rd (rd_pickT (congrArg PV.bool c11) rfl) rfl ?_
            refine vops_nil ?_
            obtain rfl := Option.some.inj hF
            refine onlyE ?_
            exact weak_sub ⟨rfl, rfl, rfl, rfl, rfl, trivial⟩
          · have hF := bifF c11 hF
            rcases Bool.eq_false_or_eq_true (decide (1 < ((s5.1).length : Int))) with c12 | c12
            · have hF := bifT c12 hF
              obtain ⟨x13, h14, hF⟩ := bnd hF
              refine vops_rd (rd_mvV rfl) rfl ?_
              refine vops_rd (rd_to (rd_ixV rfl rfl h10 te_22 ts_5) (v' := .vptr [.int .u8 x9] 0) rfl) rfl ?_
              refine vops_rd (rd_loadV1 rfl ta_5 rfl) rfl ?_
              refine vops_rd (rd_neq rfl rfl) rfl ?_
              refine vops_rd (rd_mvB rfl) rfl ?_
              refine vops_take rfl (congrArg PV.bool c11) ?_
              refine vops_rd (rd_mvV rfl) rfl ?_
              refine vops_take rfl (congrArg PV.bool c11) ?_
              refine vops_rd (rd_to (rd_lenV rfl rfl te_22) (congrArg (fun n : Nat => PV.int .i64 (n : Int)) (List.length_map _))) rfl ?_
              refine vops_take rfl (congrArg PV.bool c11) ?_
              refine vops_rd (rd_gtr rfl rfl) rfl ?_
              refine vops_take rfl (congrArg PV.bool c11) ?_
              refine vops_rd (rd_mvB rfl) rfl ?_
              refine vops_take rfl (congrArg PV.bool c12) ?_
              refine vops_rd (rd_mvV rfl) rfl ?_
              refine vops_take rfl (congrArg PV.bool c12) ?_
              refine vops_rd (rd_to (rd_ixV rfl rfl h14 te_22 ts_5) (v' := .vptr [.int .u8 x13] 0) rfl) rfl ?_
              refine vops_take rfl (congrArg PV.bool c12) ?_
              refine vops_rd (rd_loadV1 rfl ta_5 rfl) rfl ?_
              refine vops_take rfl (congrArg PV.bool c12) ?_
              refine vops_rd (rd_conv rfl us_5 ti_3 rfl) rfl ?_
              refine vops_take rfl (congrArg PV.bool c12) ?_
              refine vops_rd (rd_gtr rfl rfl) rfl ?_
              refine vops_take rfl (congrArg PV.bool c11) ?_
              refine vops_rd (rd_pickT (congrArg PV.bool c12) rfl) rfl ?_
              refine vops_rd (rd_pickF (congrArg PV.bool c11) rfl) rfl ?_
              refine vops_nil ?_
              obtain rfl := Option.some.inj hF
              refine onlyE ?_
              exact weak_sub ⟨rfl, rfl, rfl, rfl, rfl, trivial⟩
            · have hF := bifF c12 hF
              refine vops_rd (rd_mvV rfl) rfl ?_
              refine vops_rd (rd_to (rd_ixV rfl rfl h10 te_22 ts_5) (v' := .vptr [.int .u8 x9] 0) rfl) rfl ?_
              refine vops_rd (rd_loadV1 rfl ta_5 rfl) rfl ?_
              refine vops_rd (rd_neq rfl rfl) rfl ?_
              refine vops_rd (rd_mvB rfl) rfl ?_
              refine vops_take rfl (congrArg PV.bool c11) ?_
              refine vops_rd (rd_mvV rfl) rfl ?_
              refine vops_take rfl (congrArg PV.bool c11) ?_
              refine vops_rd (rd_to (rd_lenV rfl rfl te_22) (congrArg (fun n : Nat => PV.int .i64 (n : Int)) (List.length_map _))) rfl ?_
              refine vops_take rfl (congrArg PV.bool c11) ?_
              refine vops_rd (rd_gtr rfl rfl) rfl ?_
              refine vops_take rfl (congrArg PV.bool c11) ?_
              refine vops_rd (rd_mvB rfl) rfl ?_
              refine vops_skip rfl rfl (neF c12) rfl ?_
              refine vops_skip rfl rfl (neF c12) rfl ?_
              refine vops_skip rfl rfl (neF c12) rfl ?_
              refine vops_skip rfl rfl (neF c12) rfl ?_
              refine vops_skip rfl rfl (neF c12) rfl ?_
              refine vops_take rfl (congrArg PV.bool c11) ?_
              refine vops_rd (rd_pickF (congrArg PV.bool c12) rfl) rfl ?_
              refine vops_rd (rd_pickF (congrArg PV.bool c11) rfl) rfl ?_
              refine vops_nil ?_
              obtain rfl := Option.some.inj hF
              refine onlyE ?_
              exact weak_sub ⟨rfl, rfl, rfl, rfl, rfl, trivial⟩
        · rintro _ _ _ _ ⟨rfl, hw⟩
          refine ⟨_, _, _, hw, ?_⟩
          refine vwp_cond rfl (fun c15 => ?_) (fun c15 => ?_)
          · have hF := bifT c15 hF
            refine vwp_seq ?_
            refine vwp_region ?_
            obtain ⟨x16, h17, hF⟩ := bnd hF
            refine vops_rd (rd_mvV rfl) rfl ?_
            refine vops_rd (rd_slV rfl te_22 ts_5 ⟨_, rfl⟩ rfl h17) rfl ?_
            refine vops_rd (rd_mvI rfl) rfl ?_
            refine vops_rd (rd_add rfl rfl rfl) rfl ?_
            refine vops_rd (rd_asV rfl) rfl ?_
            refine vops_rd (rd_asI rfl) rfl ?_
            refine vops_nil ?_
            refine vwp_exit ?_
            obtain rfl := Option.some.inj hF
            refine onlyE ?_
            exact weak_sub ⟨rfl, rfl, rfl, rfl, trivial⟩
          · have hF := bifF c15 hF
            refine vwp_skip ?_
            refine vwp_seq ?_
            refine vwp_seq ?_
            obtain ⟨o18, ho18, hF⟩ := bnd hF
            refine vwp_monoW (Q' := (fun o18 => OnlyE .normal (fun E' lw lc => Weak E' lw lc [(4, .ptr (low.length + 0) 0 0 0), (6, .vs 1 (List.map (PV.int .u8) s5.1)), (7, .sl (low.length + 1) 0 0 (s5.2.2).length), (8, .int .i64 s5.2.1), (52, .bool o18)] low [⟨36, 2, [.agg [.nils, .int .i64 0]], 0⟩, ⟨24, 3, List.map T_Frame.enc s5.2.2, 0⟩])) o18) ?_ ?_
            · replace hF := ho18
              refine vwp_region ?_
              rcases Bool.eq_false_or_eq_true (decide (((s5.1).length : Int) < 2)) with c19 | c19
              · have hF := bifT c19 hF
                refine vops_rd (rd_mvV rfl) rfl ?_
                refine vops_rd (rd_to (rd_lenV rfl rfl te_22) (congrArg (fun n : Nat => PV.int .i64 (n : Int)) (List.length_map _))) rfl ?_
                refine vops_rd (rd_lss rfl rfl) rfl ?_
                refine vops_rd (rd_mvB rfl) rfl ?_
                refine vops_skip rfl rfl (neT c19) rfl ?_
                refine vops_skip rfl rfl (neT c19) rfl ?_
                refine vops_skip rfl rfl (neT c19) rfl ?_
                refine vops_skip rfl rfl (neT c19) rfl ?_
                refine vops_skip rfl rfl (neT c19) rfl ?_
                refine vops_skip rfl rfl (neT c19) rfl ?_
                refine vops_skip rfl rfl (neT c19) rfl ?_
                refine vops_skip rfl rfl (neT c19) rfl ?_
                refine vops_rd (rd_pickT (congrArg PV.bool c19) rfl) rfl ?_
                refine vops_nil ?_
                obtain rfl := Option.some.inj hF
                refine onlyE ?_
                exact weak_sub ⟨rfl, rfl, rfl, rfl, rfl, trivial⟩
              · have hF := bifF c19 hF
                obtain ⟨x20, h21, hF⟩ := bnd hF
                refine vops_rd (rd_mvV rfl) rfl ?_
                refine vops_rd (rd_to (rd_lenV rfl rfl te_22) (congrArg (fun n : Nat => PV.int .i64 (n : Int)) (List.length_map _))) rfl ?_
                refine vops_rd (rd_lss rfl rfl) rfl ?_
                refine vops_rd (rd_mvB rfl) rfl ?_
                refine vops_take rfl (congrArg PV.bool c19) ?_
                refine vops_rd (rd_mvV rfl) rfl ?_
                refine vops_take rfl (congrArg PV.bool c19) ?_
                refine vops_rd (rd_to (rd_lenV rfl rfl te_22) (congrArg (fun n : Nat => PV.int .i64 (n : Int)) (List.length_map _))) rfl ?_
                refine vops_take rfl (congrArg PV.bool c19) ?_
                refine vops_rd (rd_mvV rfl) rfl ?_
                refine vops_take rfl (congrArg PV.bool c19) ?_
                refine vops_rd (rd_to (rd_ixV rfl rfl h21 te_22 ts_5) (v' := .vptr [.int .u8 x20] 0) rfl) rfl ?_
                refine vops_take rfl (congrArg PV.bool c19) ?_
                refine vops_rd (rd_loadV1 rfl ta_5 rfl) rfl ?_
                refine vops_take rfl (congrArg PV.bool c19) ?_
                refine vops_rd (rd_conv rfl us_5 ti_3 rfl) rfl ?_
                refine vops_take rfl (congrArg PV.bool c19) ?_
                refine vops_rd (rd_add rfl rfl rfl) rfl ?_
                refine vops_take rfl (congrArg PV.bool c19) ?_
                refine vops_rd (rd_lss rfl rfl) rfl ?_
                refine vops_rd (rd_pickF (congrArg PV.bool c19) rfl) rfl ?_
                refine vops_nil ?_
                obtain rfl := Option.some.inj hF
                refine onlyE ?_
                exact weak_sub ⟨rfl, rfl, rfl, rfl, rfl, trivial⟩
            · rintro _ _ _ _ ⟨rfl, hw⟩
              refine ⟨_, _, _, hw, ?_⟩
              refine vwp_cond rfl (fun c22 => ?_) (fun c22 => ?_)
              · have hF := bifT c22 hF
                refine vwp_exit ?_
                obtain rfl := Option.some.inj hF
                refine onlyE ?_
                exact weak_sub ⟨rfl, rfl, rfl, rfl, trivial⟩
              · have hF := bifF c22 hF
                refine vwp_skip ?_
                refine vwp_seq ?_
                refine vwp_region ?_
                obtain ⟨x23, h24, hF⟩ := bnd hF
                refine vops_rd (rd_mvV rfl) rfl ?_
                refine vops_rd (rd_to (rd_ixV rfl rfl h24 te_22 ts_5) (v' := .vptr [.int .u8 x23] 0) rfl) rfl ?_
                refine vops_rd (rd_loadV1 rfl ta_5 rfl) rfl ?_
                refine vops_rd (rd_conv rfl us_5 ti_3 rfl) rfl ?_
                refine vops_rd (rd_asI rfl) rfl ?_
                refine vops_nil ?_
                refine vwp_seq ?_
                refine vwp_seq ?_
                obtain ⟨x25, h26, hF⟩ := bnd hF
                obtain ⟨x27, h28, hF⟩ := bnd hF
                obtain ⟨x29, h30, hF⟩ := bnd hF
                obtain ⟨x31, h32, hF⟩ := bnd hF
                refine vwp_drawn [[], [], [1], [0, 1, 2], [0, 1, 2, 3], [], [], [6], [5, 6, 7], [5, 6, 7, 8], [5, 6, 7, 8, 9], [5, 6, 7, 8, 9, 10], [], [], [13], [12, 13, 14], [12, 13, 14, 15], [12, 13, 14, 15, 16], [5, 6, 7, 8, 9, 10, 11, 12, 13, 14, 15, 16, 17], [0, 1, 2, 3, 4, 5, 6, 7, 8, 9, 10, 11, 12, 13, 14, 15, 16, 17, 18]] [false, false, false, false, false, false, false, false, false, false, false, false, false, false, false, false, false, false, false, false] [(low, [⟨36, 2, [.agg [.nils, .int .i64 0]], 0⟩, ⟨24, 3, List.map T_Frame.enc s5.2.2, 0⟩])] mixed (by kernel_rfl) rfl (lenAll (all1 rfl all0)) rfl (low, [⟨36, 2, [.agg [.nils, .int .i64 0]], 0⟩, ⟨24, 3, List.map T_Frame.enc s5.2.2, 0⟩]) rfl rfl ?_
                refine dops_rdW [(low, [⟨36, 2, [.agg [.nils, .int .i64 0]], 0⟩, ⟨24, 3, List.map T_Frame.enc s5.2.2, 0⟩])] rfl rfl (all1 (VRd.ntl (rd_mvV rfl)) all0) ?_
                refine dops_rdW [(low, [⟨36, 2, [.agg [.nils, .int .i64 0]], 0⟩, ⟨24, 3, List.map T_Frame.enc s5.2.2, 0⟩])] rfl rfl (all1 (VRd.ntl (rd_mvI rfl)) all0) ?_
                refine dops_rdW [(low, [⟨36, 2, [.agg [.nils, .int .i64 0]], 0⟩, ⟨24, 3, List.map T_Frame.enc s5.2.2, 0⟩])] rfl rfl (all1 (VRd.ntl (rd_add rfl rfl rfl)) all0) ?_
                refine dops_rdW [(low, [⟨36, 2, [.agg [.nils, .int .i64 0]], 0⟩, ⟨24, 3, List.map T_Frame.enc s5.2.2, 0⟩])] rfl rfl (all1 (VRd.ntl (rd_slV rfl te_22 ts_5 ⟨_, rfl⟩ ⟨_, rfl⟩ h26)) all0) ?_
                refine dops_rdW [(low, [⟨36, 2, [.agg [.nils, .int .i64 0]], 0⟩, ⟨24, 3, List.map T_Frame.enc s5.2.2, 0⟩])] rfl rfl (all1 (nt_of (vef_callP rfl Try.call14 (F_telegram_Check_ok h28 _))) all0) ?_
                refine dops_rdW [(low, [⟨36, 2, [.agg [.nils, .int .i64 0]], 0⟩, ⟨24, 3, List.map T_Frame.enc s5.2.2, 0⟩])] rfl rfl (all1 (VRd.ntl (rd_mvV rfl)) all0) ?_
                refine dops_rdW [(low, [⟨36, 2, [.agg [.nils, .int .i64 0]], 0⟩, ⟨24, 3, List.map T_Frame.enc s5.2.2, 0⟩])] rfl rfl (all1 (VRd.ntl (rd_mvI rfl)) all0) ?_
                refine dops_rdW [(low, [⟨36, 2, [.agg [.nils, .int .i64 0]], 0⟩, ⟨24, 3, List.map T_Frame.enc s5.2.2, 0⟩])] rfl rfl (all1 (VRd.ntl (rd_add rfl rfl rfl)) all0) ?_
                refine dops_rdW [(low, [⟨36, 2, [.agg [.nils, .int .i64 0]], 0⟩, ⟨24, 3, List.map T_Frame.enc s5.2.2, 0⟩])] rfl rfl (all1 (VRd.ntl (rd_to (rd_ixV rfl rfl h30 te_22 ts_5) (v' := .vptr [.int .u8 x29] 0) rfl)) all0) ?_
                refine dops_rdW [(low, [⟨36, 2, [.agg [.nils, .int .i64 0]], 0⟩, ⟨24, 3, List.map T_Frame.enc s5.2.2, 0⟩])] rfl rfl (all1 (VRd.ntl (rd_loadV1 rfl ta_5 rfl)) all0) ?_
                refine dops_rdW [(low, [⟨36, 2, [.agg [.nils, .int .i64 0]], 0⟩, ⟨24, 3, List.map T_Frame.enc s5.2.2, 0⟩])] rfl rfl (all1 (VRd.ntl (rd_conv rfl us_5 ti_3 rfl)) all0) ?_
                refine dops_rdW [(low, [⟨36, 2, [.agg [.nils, .int .i64 0]], 0⟩, ⟨24, 3, List.map T_Frame.enc s5.2.2, 0⟩])] rfl rfl (all1 (VRd.ntl (rd_shlC (c := 256) rfl rfl (by decide) rfl rfl)) all0) ?_
                refine dops_rdW [(low, [⟨36, 2, [.agg [.nils, .int .i64 0]], 0⟩, ⟨24, 3, List.map T_Frame.enc s5.2.2, 0⟩])] rfl rfl (all1 (VRd.ntl (rd_mvV rfl)) all0) ?_
                refine dops_rdW [(low, [⟨36, 2, [.agg [.nils, .int .i64 0]], 0⟩, ⟨24, 3, List.map T_Frame.enc s5.2.2, 0⟩])] rfl rfl (all1 (VRd.ntl (rd_mvI rfl)) all0) ?_
                refine dops_rdW [(low, [⟨36, 2, [.agg [.nils, .int .i64 0]], 0⟩, ⟨24, 3, List.map T_Frame.enc s5.2.2, 0⟩])] rfl rfl (all1 (VRd.ntl (rd_add rfl rfl rfl)) all0) ?_
                refine dops_rdW [(low, [⟨36, 2, [.agg [.nils, .int .i64 0]], 0⟩, ⟨24, 3, List.map T_Frame.enc s5.2.2, 0⟩])] rfl rfl (all1 (VRd.ntl (rd_to (rd_ixV rfl rfl h32 te_22 ts_5) (v' := .vptr [.int .u8 x31] 0) rfl)) all0) ?_
                refine dops_rdW [(low, [⟨36, 2, [.agg [.nils, .int .i64 0]], 0⟩, ⟨24, 3, List.map T_Frame.enc s5.2.2, 0⟩])] rfl rfl (all1 (VRd.ntl (rd_loadV1 rfl ta_5 rfl)) all0) ?_
                refine dops_rdW [(low, [⟨36, 2, [.agg [.nils, .int .i64 0]], 0⟩, ⟨24, 3, List.map T_Frame.enc s5.2.2, 0⟩])] rfl rfl (all1 (VRd.ntl (rd_conv rfl us_5 ti_3 rfl)) all0) ?_
                refine dops_rdW [(low, [⟨36, 2, [.agg [.nils, .int .i64 0]], 0⟩, ⟨24, 3, List.map T_Frame.enc s5.2.2, 0⟩])] rfl rfl (all1 (VRd.ntl (rd_or rfl rfl rfl)) all0) ?_
                refine dops_rdW [(low, [⟨36, 2, [.agg [.nils, .int .i64 0]], 0⟩, ⟨24, 3, List.map T_Frame.enc s5.2.2, 0⟩])] rfl rfl (all1 (VRd.ntl (rd_neq rfl rfl)) all0) ?_
                refine dops_nil ?_
                refine vwp_cond rfl (fun c33 => ?_) (fun c33 => ?_)
                · have hF := bifT c33 hF
                  refine vwp_seq ?_
                  refine vwp_region ?_
                  obtain ⟨x34, h35, hF⟩ := bnd hF
                  refine vops_rd (rd_mvV rfl) rfl ?_
                  refine vops_rd (rd_slV rfl te_22 ts_5 ⟨_, rfl⟩ rfl h35) rfl ?_
                  refine vops_rd (rd_mvI rfl) rfl ?_
                  refine vops_rd (rd_add rfl rfl rfl) rfl ?_
                  refine vops_rd (rd_asV rfl) rfl ?_
                  refine vops_rd (rd_asI rfl) rfl ?_
                  refine vops_nil ?_
                  refine vwp_exit ?_
                  obtain rfl := Option.some.inj hF
                  refine onlyE ?_
                  exact weak_sub ⟨rfl, rfl, rfl, rfl, trivial⟩
                · have hF := bifF c33 hF
                  refine vwp_skip ?_
                  refine vwp_seq ?_
                  obtain ⟨x36, h37, hF⟩ := bnd hF
                  obtain ⟨x38, h39, hF⟩ := bnd hF
                  obtain ⟨x40, h41, hF⟩ := bnd hF
                  obtain ⟨x42, h43, hF⟩ := bnd hF
                  obtain ⟨x44, h45, hF⟩ := bnd hF
                  refine vwp_drawn [[], [], [1], [1, 2], [1, 2, 3], [], [5], [5, 6], [5, 6, 7], [], [], [10], [9, 10, 11], [9, 10, 11, 12], [1, 2, 3, 4, 5, 6, 7, 8, 9, 10, 11, 12, 13], [1, 2, 3, 4, 5, 6, 7, 8, 9, 10, 11, 12, 13, 14], [0, 1, 2, 3, 4, 5, 6, 7, 8, 9, 10, 11, 12, 13, 14, 15], [0, 1, 2, 3, 4, 5, 6, 7, 8, 9, 10, 11, 12, 13, 14, 15, 16]] [false, false, false, false, false, false, false, false, false, false, false, false, false, false, false, false, true, false] [(low, [⟨36, 2, [.agg [.nils, .int .i64 0]], 0⟩, ⟨24, 3, List.map T_Frame.enc s5.2.2, 0⟩]), (low, [⟨36, 2, [.agg [.nils, .int .i64 0]], 0⟩, ⟨24, 3, List.map T_Frame.enc x44, 0 + 1⟩])] mixed (by kernel_rfl) rfl (lenAll (all1 rfl (all1 rfl all0))) rfl (low, [⟨36, 2, [.agg [.nils, .int .i64 0]], 0⟩, ⟨24, 3, List.map T_Frame.enc x44, 0 + 1⟩]) rfl rfl ?_
                  refine dops_rdW [(low, [⟨36, 2, [.agg [.nils, .int .i64 0]], 0⟩, ⟨24, 3, List.map T_Frame.enc s5.2.2, 0⟩])] rfl rfl (all1 (VRd.ntl (rd_mvL rfl)) all0) ?_
                  refine dops_rdW [(low, [⟨36, 2, [.agg [.nils, .int .i64 0]], 0⟩, ⟨24, 3, List.map T_Frame.enc s5.2.2, 0⟩])] rfl rfl (all1 (VRd.ntl (rd_mvV rfl)) all0) ?_
                  refine dops_rdW [(low, [⟨36, 2, [.agg [.nils, .int .i64 0]], 0⟩, ⟨24, 3, List.map T_Frame.enc s5.2.2, 0⟩])] rfl rfl (all1 (VRd.ntl (rd_to (rd_ixV rfl rfl h37 te_22 ts_5) (v' := .vptr [.int .u8 x36] 0) rfl)) all0) ?_
                  refine dops_rdW [(low, [⟨36, 2, [.agg [.nils, .int .i64 0]], 0⟩, ⟨24, 3, List.map T_Frame.enc s5.2.2, 0⟩])] rfl rfl (all1 (VRd.ntl (rd_loadV1 rfl ta_5 rfl)) all0) ?_
                  refine dops_rdW [(low, [⟨36, 2, [.agg [.nils, .int .i64 0]], 0⟩, ⟨24, 3, List.map T_Frame.enc s5.2.2, 0⟩])] rfl rfl (all1 (VRd.ntl (rd_conv rfl us_5 ti_3 rfl)) all0) ?_
                  refine dops_rdW [(low, [⟨36, 2, [.agg [.nils, .int .i64 0]], 0⟩, ⟨24, 3, List.map T_Frame.enc s5.2.2, 0⟩])] rfl rfl (all1 (VRd.ntl (rd_mvV rfl)) all0) ?_
                  refine dops_rdW [(low, [⟨36, 2, [.agg [.nils, .int .i64 0]], 0⟩, ⟨24, 3, List.map T_Frame.enc s5.2.2, 0⟩])] rfl rfl (all1 (VRd.ntl (rd_to (rd_ixV rfl rfl h39 te_22 ts_5) (v' := .vptr [.int .u8 x38] 0) rfl)) all0) ?_
                  refine dops_rdW [(low, [⟨36, 2, [.agg [.nils, .int .i64 0]], 0⟩, ⟨24, 3, List.map T_Frame.enc s5.2.2, 0⟩])] rfl rfl (all1 (VRd.ntl (rd_loadV1 rfl ta_5 rfl)) all0) ?_
                  refine dops_rdW [(low, [⟨36, 2, [.agg [.nils, .int .i64 0]], 0⟩, ⟨24, 3, List.map T_Frame.enc s5.2.2, 0⟩])] rfl rfl (all1 (VRd.ntl (rd_conv rfl us_5 ti_3 rfl)) all0) ?_
                  refine dops_rdW [(low, [⟨36, 2, [.agg [.nils, .int .i64 0]], 0⟩, ⟨24, 3, List.map T_Frame.enc s5.2.2, 0⟩])] rfl rfl (all1 (VRd.ntl (rd_mvV rfl)) all0) ?_
                  refine dops_rdW [(low, [⟨36, 2, [.agg [.nils, .int .i64 0]], 0⟩, ⟨24, 3, List.map T_Frame.enc s5.2.2, 0⟩])] rfl rfl (all1 (VRd.ntl (rd_mvI rfl)) all0) ?_
                  refine dops_rdW [(low, [⟨36, 2, [.agg [.nils, .int .i64 0]], 0⟩, ⟨24, 3, List.map T_Frame.enc s5.2.2, 0⟩])] rfl rfl (all1 (VRd.ntl (rd_add rfl rfl rfl)) all0) ?_
                  refine dops_rdW [(low, [⟨36, 2, [.agg [.nils, .int .i64 0]], 0⟩, ⟨24, 3, List.map T_Frame.enc s5.2.2, 0⟩])] rfl rfl (all1 (VRd.ntl (rd_slV rfl te_22 ts_5 ⟨_, rfl⟩ ⟨_, rfl⟩ h41)) all0) ?_
                  refine dops_rdW [(low, [⟨36, 2, [.agg [.nils, .int .i64 0]], 0⟩, ⟨24, 3, List.map T_Frame.enc s5.2.2, 0⟩])] rfl rfl (all1 (nt_of (vef_ap0F (f := (PV.int .u8)) (ys := x40) (.inl rfl) rfl (src_vs rfl) (Nat.succ_pos _) te_22 ts_5 tb_5 (by decide) tz_5 rfl (fun _ => .int _ _) h43)) all0) ?_
                  refine dops_rdW [(low, [⟨36, 2, [.agg [.nils, .int .i64 0]], 0⟩, ⟨24, 3, List.map T_Frame.enc s5.2.2, 0⟩])] rfl rfl (all1 (VRd.ntl (rd_build (vs := [(0, .int .i64 (IntKind.i64.wrap x36)), (1, .int .i64 (IntKind.i64.wrap x38)), (2, .vs 1 (List.map (PV.int .u8) x42))]) (ds := [.int .i64 (IntKind.i64.wrap x36), .int .i64 (IntKind.i64.wrap x38), .vs 1 (List.map (PV.int .u8) x42)]) tz_24 rfl rfl tp_24 ⟨rfl, rfl, rfl, rfl, rfl, rfl, trivial⟩ (nt_all2 rfl) rfl)) all0) ?_
                  refine dops_rdW [(low, [⟨36, 2, [.agg [.nils, .int .i64 0]], 0⟩, ⟨24, 3, List.map T_Frame.enc s5.2.2, 0⟩])] rfl rfl (all1 (nt_of (vef_litF (es := List.map T_Frame.enc [(T_Frame.mk (IntKind.i64.wrap x36) (IntKind.i64.wrap x38) x42)]) ⟨rfl, rfl, trivial⟩ rfl rfl (nt_all rfl) te_29 ts_24 tz_24 rfl rfl (Nat.succ_pos _) (by decide) (lt_map T_Frame.enc_lt))) all0) ?_
                  refine dops_ef (M := (low, [⟨36, 2, [.agg [.nils, .int .i64 0]], 0⟩, ⟨24, 3, List.map T_Frame.enc s5.2.2, 0⟩])) (M' := (low, [⟨36, 2, [.agg [.nils, .int .i64 0]], 0⟩, ⟨24, 3, List.map T_Frame.enc x44, 0 + 1⟩])) rfl rfl rfl (vef_apL (f := T_Frame.enc) (l := s5.2.2) (ys := [(T_Frame.mk (IntKind.i64.wrap x36) (IntKind.i64.wrap x38) x42)]) rfl rfl (getO_N rfl rfl) rfl (src_vs rfl) te_29 ts_24 tb_24 (by decide) tz_24 rfl h45 (setO_N rfl rfl)) ?_
                  refine dops_rdW [(low, [⟨36, 2, [.agg [.nils, .int .i64 0]], 0⟩, ⟨24, 3, List.map T_Frame.enc x44, 0 + 1⟩])] rfl rfl (all1 (VRd.ntl (rd_asL rfl)) all0) ?_
                  refine dops_nil ?_
                  refine vwp_region ?_
                  obtain ⟨x46, h47, hF⟩ := bnd hF
                  refine vops_rd (rd_mvV rfl) rfl ?_
                  refine vops_rd (rd_mvI rfl) rfl ?_
                  refine vops_rd (rd_add rfl rfl rfl) rfl ?_
                  refine vops_rd (rd_slV rfl te_22 ts_5 ⟨_, rfl⟩ rfl h47) rfl ?_
                  refine vops_rd (rd_asV rfl) rfl ?_
                  refine vops_nil ?_
                  obtain rfl := Option.some.inj hF
                  refine onlyE ?_
                  exact weak_pick rfl [(0, 0), (1, 0 + 1)] (by decide) ⟨rn_ptr 0 0 rfl rfl, rn_low rfl (.vs _ _), rn_sl 1 1 rfl rfl, rn_low rfl (.int _ _), trivial⟩ ⟨⟨_, rfl, rfl, .same _ _ _ _ (ltObj_es ⟨(lt_agg ⟨.nils, .int _ _, trivial⟩), trivial⟩)⟩, ⟨_, rfl, rfl, .same _ _ _ _ (ltObj_map T_Frame.enc_lt)⟩, trivial⟩
      · have hF := bifF c7 hF
        refine vwp_exit ?_
        obtain rfl := Option.some.inj hF
        refine onlyE ?_
        exact weak_sub ⟨rfl, rfl, rfl, rfl, trivial⟩
    · rintro _ _ _ _ ⟨rfl, hw⟩
      refine ⟨_, _, _, hw, ?_⟩
      refine vwp_seq ?_
      refine vwp_region ?_
      obtain ⟨x48, h49, hF⟩ := bnd hF
      refine vops_rd (rd_mvV rfl) rfl ?_
      refine vops_efE (vef_ap0F (f := (PV.int .u8)) (ys := o6.1) (.inl rfl) rfl (src_vs rfl) (Nat.succ_pos _) te_22 ts_5 tb_5 (by decide) tz_5 rfl (fun _ => .int _ _) h49) rfl ?_
      refine vops_rd (rd_mvI rfl) rfl ?_
      refine vops_rd (rd_build (vs := [(0, .vs 1 (List.map (PV.int .u8) x48)), (1, .int .i64 o6.2.1)]) (ds := [.vs 1 (List.map (PV.int .u8) x48), .int .i64 o6.2.1]) tz_36 rfl rfl tp_36 ⟨rfl, rfl, rfl, rfl, trivial⟩ (nt_all2 rfl) rfl) rfl ?_
      refine vops_rd (rd_mvL rfl) rfl ?_
      refine vops_efE (vef_store (p := .agg [.vs 1 (List.map (PV.int .u8) x48), .int .i64 o6.2.1]) (e' := .agg [.vs 1 (List.map (PV.int .u8) x48), .int .i64 o6.2.1]) rfl (getO_N rfl rfl) rfl rfl ts_36 rfl (nt_ne rfl) rfl (Nat.le_of_ble_eq_true rfl) rfl (setO_N rfl rfl)) rfl ?_
      refine vops_rd (rd_asL rfl) rfl ?_
      refine vops_nil ?_
      refine vwp_ret ?_
      obtain rfl := Option.some.inj hF
      refine fnR ?_
      refine Weak.trans (weak_freezeN (E' := [(4, .ptr (low.length + 0) 0 0 0), (5, .vs 3 (List.map T_Frame.enc o6.2.2))]) (loc1 := [⟨36, 2, [.agg [.vs 1 (List.map (PV.int .u8) x48), .int .i64 o6.2.1]], 0⟩, ⟨24, 3, [], 0 + 1⟩]) rfl 1 rfl (lt_map T_Frame.enc_lt) ⟨cv_same rfl, cv_sl rfl rfl rfl (full_take rfl), trivial⟩ ⟨.refl _, .refl _, trivial⟩) ?_
      exact weak_pick rfl [(0, 0)] (by decide) ⟨rn_ptr 0 0 rfl rfl, rn_low rfl (.vs _ _), trivial⟩ ⟨⟨_, rfl, rfl, .same _ _ _ _ (ltObj_es ⟨(lt_agg ⟨.vs _ _, .int _ _, trivial⟩), trivial⟩)⟩, trivial⟩
  · rintro _ _ _ _ ⟨he, hw⟩
    refine ⟨_, _, _, hw, ?_⟩
    exact bodyQ_pure he [.agg [.vs 1 (List.map (PV.int .u8) r.1.Held), .int .i64 r.1.Dropped], .vs 3 (List.map T_Frame.enc r.2)] ⟨rd_loadN rfl (getO_N rfl rfl) rfl ta_36 ts_36 rfl rfl rfl, rfl, trivial⟩ ((lt_tup ⟨(lt_agg ⟨.vs _ _, .int _ _, trivial⟩), .vs _ _, trivial⟩)) ⟨rfl, rfl⟩

theorem F_ref04_Same_ok {p0 : List T_Frame} {p1 : List T_Frame} {r : Bool} (hF : F_ref04_Same p0 p1 = some r) (low : List AObj) :
    VCalls Try.prog 20 [.vs 3 (List.map T_Frame.enc p0), .vs 3 (List.map T_Frame.enc p1)] low fun x low' => x = .bool r ∧ low' = low := by
  refine vcalls_of_body (nt := 56) (rs := [.tmp 4]) Try.func20 rfl rfl (Nat.le_of_ble_eq_true rfl) rfl ?_
  refine vwp_monoW (Q' := FnE (fun E' lw lc => Weak E' lw lc [(4, .bool r)] low [])) ?_ ?_
  · unfold F_ref04_Same at hF
    refine vwp_seq ?_
    refine vwp_region ?_
    refine vops_rd (rd_asB rfl) rfl ?_
    refine vops_nil ?_
    refine vwp_seq ?_
    refine vwp_seq ?_
    refine vwp_region ?_
    refine vops_rd (rd_mvV rfl) rfl ?_
    refine vops_rd (rd_to (rd_lenV rfl rfl te_29) (congrArg (fun n : Nat => PV.int .i64 (n : Int)) (List.length_map _))) rfl ?_
    refine vops_rd (rd_mvV rfl) rfl ?_
    refine vops_rd (rd_to (rd_lenV rfl rfl te_29) (congrArg (fun n : Nat => PV.int .i64 (n : Int)) (List.length_map _))) rfl ?_
    refine vops_rd (rd_neq rfl rfl) rfl ?_
    refine vops_nil ?_
    refine vwp_cond rfl (fun c1 => ?_) (fun c1 => ?_)
    · have hF := bifT c1 hF
      refine vwp_seq ?_
      refine vwp_region ?_
      refine vops_rd (rd_asB rfl) rfl ?_
      refine vops_nil ?_
      refine vwp_ret ?_
      obtain rfl := Option.some.inj hF
      refine fnR ?_
      exact weak_sub ⟨rfl, trivial⟩
    · have hF := bifF c1 hF
      refine vwp_skip ?_
      refine vwp_seq ?_
      refine vwp_seq ?_
      refine vwp_region ?_
      refine vops_rd (rd_asI rfl) rfl ?_
      refine vops_nil ?_
      refine vwp_block ?_
      obtain ⟨o3, ho3, hF⟩ := bnd hF
      refine vwp_monoW (vwp_loopC (F_ref04_Same_L1 p0 p1) (fun s2 E' lw lc => Weak E' lw lc [(0, .vs 3 (List.map T_Frame.enc p0)), (1, .vs 3 (List.map T_Frame.enc p1)), (5, .int .i64 s2)] low []) (Sum.elim (fun j4 => OnlyE .ret (fun E' lw lc => Weak E' lw lc [(4, .bool false)] low [])) (fun j5 => OnlyE (.exit 0) (fun E' lw lc => Weak E' lw lc [] low []))) ho3 ?_ (by rintro (_|_) _ _ _ ⟨h, _⟩ <;> cases h) ?_) ?_
      · exact weak_sub ⟨rfl, rfl, rfl, trivial⟩
      · rintro s2 os2 _ _ _ hF hw
        unfold F_ref04_Same_L1 at hF
        refine vwp_weak hw ?_
        refine vwp_seq ?_
        refine vwp_seq ?_
        refine vwp_region ?_
        refine vops_rd (rd_mvI rfl) rfl ?_
        refine vops_rd (rd_mvV rfl) rfl ?_
        refine vops_rd (rd_to (rd_lenV rfl rfl te_29) (congrArg (fun n : Nat => PV.int .i64 (n : Int)) (List.length_map _))) rfl ?_
        refine vops_rd (rd_lss rfl rfl) rfl ?_
        refine vops_nil ?_
        refine vwp_cond rfl (fun c6 => ?_) (fun c6 => ?_)
        · have hF := bifT c6 hF
          refine vwp_skip ?_
          refine vwp_seq ?_
          refine vwp_block ?_
          refine vwp_seq ?_
          obtain ⟨o7, ho7, hF⟩ := bnd hF
          refine vwp_monoW (Q' := (fun o7 => OnlyE .normal (fun E' lw lc => Weak E' lw lc [(0, .vs 3 (List.map T_Frame.enc p0)), (1, .vs 3 (List.map T_Frame.enc p1)), (5, .int .i64 s2), (55, .bool o7)] low [])) o7) ?_ ?_
          · replace hF := ho7
            obtain ⟨x8, h9, hF⟩ := bnd hF
            obtain ⟨x10, h11, hF⟩ := bnd hF
            rcases Bool.eq_false_or_eq_true (decide (x8.Address ≠ x10.Address)) with c12 | c12
            · have hF := bifT c12 hF
              refine vwp_drawn [[], [], [0, 1], [0, 1, 2], [0, 1, 2, 3], [], [], [5, 6], [5, 6, 7], [5, 6, 7, 8], [0, 1, 2, 3, 4, 5, 6, 7, 8, 9], [0, 1, 2, 3, 4, 5, 6, 7, 8, 9, 10], [0, 1, 2, 3, 4, 5, 6, 7, 8, 9, 10, 11], [0, 1, 2, 3, 4, 5, 6, 7, 8, 9, 10, 11], [0, 1, 2, 3, 4, 5, 6, 7, 8, 9, 10, 11, 12, 13], [0, 1, 2, 3, 4, 5, 6, 7, 8, 9, 10, 11, 12, 13, 14], [0, 1, 2, 3, 4, 5, 6, 7, 8, 9, 10, 11, 12, 13, 14, 15], [0, 1, 2, 3, 4, 5, 6, 7, 8, 9, 10, 11], [0, 1, 2, 3, 4, 5, 6, 7, 8, 9, 10, 11], [0, 1, 2, 3, 4, 5, 6, 7, 8, 9, 10, 11, 17, 18], [0, 1, 2, 3, 4, 5, 6, 7, 8, 9, 10, 11, 17, 18, 19], [0, 1, 2, 3, 4, 5, 6, 7, 8, 9, 10, 11, 17, 18, 19, 20], [0, 1, 2, 3, 4, 5, 6, 7, 8, 9, 10, 11, 12, 13, 14, 15, 16, 17, 18, 19, 20, 21], [0, 1, 2, 3, 4, 5, 6, 7, 8, 9, 10, 11, 12, 13, 14, 15, 16, 17, 18, 19, 20, 21, 22], [0, 1, 2, 3, 4, 5, 6, 7, 8, 9, 10, 11, 12, 13, 14, 15, 16, 17, 18, 19, 20, 21, 22, 23], [0, 1, 2, 3, 4, 5, 6, 7, 8, 9, 10, 11, 12, 13, 14, 15, 16, 17, 18, 19, 20, 21, 22, 23, 24], [0, 1, 2, 3, 4, 5, 6, 7, 8, 9, 10, 11, 12, 13, 14, 15, 16, 17, 18, 19, 20, 21, 22, 23, 24], [0, 1, 2, 3, 4, 5, 6, 7, 8, 9, 10, 11, 12, 13, 14, 15, 16, 17, 18, 19, 20, 21, 22, 23, 24, 25, 26], [0, 1, 2, 3, 4, 5, 6, 7, 8, 9, 10, 11, 12, 13, 14, 15, 16, 17, 18, 19, 20, 21, 22, 23, 24, 25, 26, 27], [0, 1, 2, 3, 4, 5, 6, 7, 8, 9, 10, 11, 12, 13, 14, 15, 16, 17, 18, 19, 20, 21, 22, 23, 24, 25, 26, 27, 28], [0, 1, 2, 3, 4, 5, 6, 7, 8, 9, 10, 11, 12, 13, 14, 15, 16, 17, 18, 19, 20, 21, 22, 23, 24, 25, 26, 27, 28, 29], [0, 1, 2, 3, 4, 5, 6, 7, 8, 9, 10, 11, 12, 13, 14, 15, 16, 17, 18, 19, 20, 21, 22, 23, 24], [0, 1, 2, 3, 4, 5, 6, 7, 8, 9, 10, 11, 12, 13, 14, 15, 16, 17, 18, 19, 20, 21, 22, 23, 24], [0, 1, 2, 3, 4, 5, 6, 7, 8, 9, 10, 11, 12, 13, 14, 15, 16, 17, 18, 19, 20, 21, 22, 23, 24, 31, 32], [0, 1, 2, 3, 4, 5, 6, 7, 8, 9, 10, 11, 12, 13, 14, 15, 16, 17, 18, 19, 20, 21, 22, 23, 24, 31, 32, 33], [0, 1, 2, 3, 4, 5, 6, 7, 8, 9, 10, 11, 12, 13, 14, 15, 16, 17, 18, 19, 20, 21, 22, 23, 24, 31, 32, 33, 34], [0, 1, 2, 3, 4, 5, 6, 7, 8, 9, 10, 11, 12, 13, 14, 15, 16, 17, 18, 19, 20, 21, 22, 23, 24, 31, 32, 33, 34, 35], [0, 1, 2, 3, 4, 5, 6, 7, 8, 9, 10, 11, 12, 13, 14, 15, 16, 17, 18, 19, 20, 21, 22, 23, 24, 25, 26, 27, 28, 29, 30, 31, 32, 33, 34, 35, 36], [0, 1, 2, 3, 4, 5, 6, 7, 8, 9, 10, 11, 12, 13, 14, 15, 16, 17, 18, 19, 20, 21, 22, 23, 24, 25, 26, 27, 28, 29, 30, 31, 32, 33, 34, 35, 36, 37]] [false, false, false, false, false, false, false, false, false, false, false, false, false, false, false, false, false, false, false, false, false, false, false, false, false, false, false, false, false, false, false, false, false, false, false, false, false, false, false] [(low, [])] mixed (by kernel_rfl) rfl (lenAll (all1 rfl all0)) rfl (low, []) rfl rfl ?_
              refine dops_rdW [(low, [])] rfl rfl (all1 (VRd.ntl (rd_mvV rfl)) all0) ?_
              refine dops_rdW [(low, [])] rfl rfl (all1 (VRd.ntl (rd_mvI rfl)) all0) ?_
              refine dops_rdW [(low, [])] rfl rfl (all1 (VRd.ntl (rd_to (rd_ixV rfl rfl h9 te_29 ts_24) (v' := .vptr [.int .i64 x8.Address, .int .i64 x8.Kind, .vs 1 (List.map (PV.int .u8) x8.Data)] 0) rfl)) all0) ?_
              refine dops_rdW [(low, [])] rfl rfl (all1 (VRd.ntl (rd_fieldVaddr rfl tf_24_0 ts_3 (by decide))) all0) ?_
              refine dops_rdW [(low, [])] rfl rfl (all1 (VRd.ntl (rd_loadV1 rfl ta_3 rfl)) all0) ?_
              refine dops_rdW [(low, [])] rfl rfl (all1 (VRd.ntl (rd_mvV rfl)) all0) ?_
              refine dops_rdW [(low, [])] rfl rfl (all1 (VRd.ntl (rd_mvI rfl)) all0) ?_
              refine dops_rdW [(low, [])] rfl rfl (all1 (VRd.ntl (rd_to (rd_ixV rfl rfl h11 te_29 ts_24) (v' := .vptr [.int .i64 x10.Address, .int .i64 x10.Kind, .vs 1 (List.map (PV.int .u8) x10.Data)] 0) rfl)) all0) ?_
              refine dops_rdW [(low, [])] rfl rfl (all1 (VRd.ntl (rd_fieldVaddr rfl tf_24_0 ts_3 (by decide))) all0) ?_
              refine dops_rdW [(low, [])] rfl rfl (all1 (VRd.ntl (rd_loadV1 rfl ta_3 rfl)) all0) ?_
              refine dops_rdW [(low, [])] rfl rfl (all1 (VRd.ntl (rd_neq rfl rfl)) all0) ?_
              refine dops_rdW [(low, [])] rfl rfl (all1 (VRd.ntl (rd_mvB rfl)) all0) ?_
              refine dops_skip rfl rfl rfl (neT c12) ?_
              refine dops_skip rfl rfl rfl (neT c12) ?_
              refine dops_skip rfl rfl rfl (neT c12) ?_
              refine dops_skip rfl rfl rfl (neT c12) ?_
              refine dops_skip rfl rfl rfl (neT c12) ?_
              refine dops_skip rfl rfl rfl (neT c12) ?_
              refine dops_skip rfl rfl rfl (neT c12) ?_
              refine dops_skip rfl rfl rfl (neT c12) ?_
              refine dops_skip rfl rfl rfl (neT c12) ?_
              refine dops_skip rfl rfl rfl (neT c12) ?_
              refine dops_skip rfl rfl rfl (neT c12) ?_
              refine dops_rdW [(low, [])] rfl rfl (all1 (VRd.ntl (rd_pickT (congrArg PV.bool c12) rfl)) all0) ?_
              refine dops_rdW [(low, [])] rfl rfl (all1 (VRd.ntl (rd_mvB rfl)) all0) ?_
              refine dops_skip rfl rfl rfl (by decide) ?_
              refine dops_skip rfl rfl rfl (by decide) ?_
              refine dops_skip rfl rfl rfl (by decide) ?_
              refine dops_skip rfl rfl rfl (by decide) ?_
              refine dops_skip rfl rfl rfl (by decide) ?_
              refine dops_skip rfl rfl rfl (by decide) ?_
              refine dops_skip rfl rfl rfl (by decide) ?_
              refine dops_skip rfl rfl rfl (by decide) ?_
              refine dops_skip rfl rfl rfl (by decide) ?_
              refine dops_skip rfl rfl rfl (by decide) ?_
              refine dops_skip rfl rfl rfl (by decide) ?_
              refine dops_skip rfl rfl rfl (by decide) ?_
              refine dops_skip rfl rfl rfl (by decide) ?_
              refine dops_rdW [(low, [])] rfl rfl (all1 (VRd.ntl (rd_pickT rfl rfl)) all0) ?_
              refine dops_nil ?_
              obtain rfl := Option.some.inj hF
              refine onlyE ?_
              exact weak_sub ⟨rfl, rfl, rfl, rfl, trivial⟩
            · have hF := bifF c12 hF
              obtain ⟨x13, h14, hF⟩ := bnd hF
              obtain ⟨x15, h16, hF⟩ := bnd hF
              rcases Bool.eq_false_or_eq_true (decide (x13.Kind ≠ x15.Kind)) with c17 | c17
              · have hF := bifT c17 hF
                refine vwp_drawn [[], [], [0, 1], [0, 1, 2], [0, 1, 2, 3], [], [], [5, 6], [5, 6, 7], [5, 6, 7, 8], [0, 1, 2, 3, 4, 5, 6, 7, 8, 9], [0, 1, 2, 3, 4, 5, 6, 7, 8, 9, 10], [0, 1, 2, 3, 4, 5, 6, 7, 8, 9, 10, 11], [0, 1, 2, 3, 4, 5, 6, 7, 8, 9, 10, 11], [0, 1, 2, 3, 4, 5, 6, 7, 8, 9, 10, 11, 12, 13], [0, 1, 2, 3, 4, 5, 6, 7, 8, 9, 10, 11, 12, 13, 14], [0, 1, 2, 3, 4, 5, 6, 7, 8, 9, 10, 11, 12, 13, 14, 15], [0, 1, 2, 3, 4, 5, 6, 7, 8, 9, 10, 11], [0, 1, 2, 3, 4, 5, 6, 7, 8, 9, 10, 11], [0, 1, 2, 3, 4, 5, 6, 7, 8, 9, 10, 11, 17, 18], [0, 1, 2, 3, 4, 5, 6, 7, 8, 9, 10, 11, 17, 18, 19], [0, 1, 2, 3, 4, 5, 6, 7, 8, 9, 10, 11, 17, 18, 19, 20], [0, 1, 2, 3, 4, 5, 6, 7, 8, 9, 10, 11, 12, 13, 14, 15, 16, 17, 18, 19, 20, 21], [0, 1, 2, 3, 4, 5, 6, 7, 8, 9, 10, 11, 12, 13, 14, 15, 16, 17, 18, 19, 20, 21, 22], [0, 1, 2, 3, 4, 5, 6, 7, 8, 9, 10, 11, 12, 13, 14, 15, 16, 17, 18, 19, 20, 21, 22, 23], [0, 1, 2, 3, 4, 5, 6, 7, 8, 9, 10, 11, 12, 13, 14, 15, 16, 17, 18, 19, 20, 21, 22, 23, 24], [0, 1, 2, 3, 4, 5, 6, 7, 8, 9, 10, 11, 12, 13, 14, 15, 16, 17, 18, 19, 20, 21, 22, 23, 24], [0, 1, 2, 3, 4, 5, 6, 7, 8, 9, 10, 11, 12, 13, 14, 15, 16, 17, 18, 19, 20, 21, 22, 23, 24, 25, 26], [0, 1, 2, 3, 4, 5, 6, 7, 8, 9, 10, 11, 12, 13, 14, 15, 16, 17, 18, 19, 20, 21, 22, 23, 24, 25, 26, 27], [0, 1, 2, 3, 4, 5, 6, 7, 8, 9, 10, 11, 12, 13, 14, 15, 16, 17, 18, 19, 20, 21, 22, 23, 24, 25, 26, 27, 28], [0, 1, 2, 3, 4, 5, 6, 7, 8, 9, 10, 11, 12, 13, 14, 15, 16, 17, 18, 19, 20, 21, 22, 23, 24, 25, 26, 27, 28, 29], [0, 1, 2, 3, 4, 5, 6, 7, 8, 9, 10, 11, 12, 13, 14, 15, 16, 17, 18, 19, 20, 21, 22, 23, 24], [0, 1, 2, 3, 4, 5, 6, 7, 8, 9, 10, 11, 12, 13, 14, 15, 16, 17, 18, 19, 20, 21, 22, 23, 24], [0, 1, 2, 3, 4, 5, 6, 7, 8, 9, 10, 11, 12, 13, 14, 15, 16, 17, 18, 19, 20, 21, 22, 23, 24, 31, 32], [0, 1, 2, 3, 4, 5, 6, 7, 8, 9, 10, 11, 12, 13, 14, 15, 16, 17, 18, 19, 20, 21, 22, 23, 24, 31, 32, 33], [0, 1, 2, 3, 4, 5, 6, 7, 8, 9, 10, 11, 12, 13, 14, 15, 16, 17, 18, 19, 20, 21, 22, 23, 24, 31, 32, 33, 34], [0, 1, 2, 3, 4, 5, 6, 7, 8, 9, 10, 11, 12, 13, 14, 15, 16, 17, 18, 19, 20, 21, 22, 23, 24, 31, 32, 33, 34, 35], [0, 1, 2, 3, 4, 5, 6, 7, 8, 9, 10, 11, 12, 13, 14, 15, 16, 17, 18, 19, 20, 21, 22, 23, 24, 25, 26, 27, 28, 29, 30, 31, 32, 33, 34, 35, 36], [0, 1, 2, 3, 4, 5, 6, 7, 8, 9, 10, 11, 12, 13, 14, 15, 16, 17, 18, 19, 20, 21, 22, 23, 24, 25, 26, 27, 28, 29, 30, 31, 32, 33, 34, 35, 36, 37]] [false, false, false, false, false, false, false, false, false, false, false, false, false, false, false, false, false, false, false, false, false, false, false, false, false, false, false, false, false, false, false, false, false, false, false, false, false, false, false] [(low, [])] mixed (by kernel_rfl) rfl (lenAll (all1 rfl all0)) rfl (low, []) rfl rfl ?_
                refine dops_rdW [(low, [])] rfl rfl (all1 (VRd.ntl (rd_mvV rfl)) all0) ?_
                refine dops_rdW [(low, [])] rfl rfl (all1 (VRd.ntl (rd_mvI rfl)) all0) ?_
                refine dops_rdW [(low, [])] rfl rfl (all1 (VRd.ntl (rd_to (rd_ixV rfl rfl h9 te_29 ts_24) (v' := .vptr [.int .i64 x8.Address, .int .i64 x8.Kind, .vs 1 (List.map (PV.int .u8) x8.Data)] 0) rfl)) all0) ?_
                refine dops_rdW [(low, [])] rfl rfl (all1 (VRd.ntl (rd_fieldVaddr rfl tf_24_0 ts_3 (by decide))) all0) ?_
                refine dops_rdW [(low, [])] rfl rfl (all1 (VRd.ntl (rd_loadV1 rfl ta_3 rfl)) all0) ?_
                refine dops_rdW [(low, [])] rfl rfl (all1 (VRd.ntl (rd_mvV rfl)) all0) ?_
                refine dops_rdW [(low, [])] rfl rfl (all1 (VRd.ntl (rd_mvI rfl)) all0) ?_
                refine dops_rdW [(low, [])] rfl rfl (all1 (VRd.ntl (rd_to (rd_ixV rfl rfl h11 te_29 ts_24) (v' := .vptr [.int .i64 x10.Address, .int .i64 x10.Kind, .vs 1 (List.map (PV.int .u8) x10.Data)] 0) rfl)) all0) ?_
                refine dops_rdW [(low, [])] rfl rfl (all1 (VRd.ntl (rd_fieldVaddr rfl tf_24_0 ts_3 (by decide))) all0) ?_
                refine dops_rdW [(low, [])] rfl rfl (all1 (VRd.ntl (rd_loadV1 rfl ta_3 rfl)) all0) ?_
                refine dops_rdW [(low, [])] rfl rfl (all1 (VRd.ntl (rd_neq rfl rfl)) all0) ?_
                refine dops_rdW [(low, [])] rfl rfl (all1 (VRd.ntl (rd_mvB rfl)) all0) ?_
                refine dops_takeW [(low, [])] rfl rfl rfl (congrArg PV.bool c12) (all1 (VRd.ntl (rd_mvV rfl)) all0) ?_
                refine dops_takeW [(low, [])] rfl rfl rfl (congrArg PV.bool c12) (all1 (VRd.ntl (rd_mvI rfl)) all0) ?_
                refine dops_takeW [(low, [])] rfl rfl rfl (congrArg PV.bool c12) (all1 (VRd.ntl (rd_to (rd_ixV rfl rfl h14 te_29 ts_24) (v' := .vptr [.int .i64 x13.Address, .int .i64 x13.Kind, .vs 1 (List.map (PV.int .u8) x13.Data)] 0) rfl)) all0) ?_
                refine dops_takeW [(low, [])] rfl rfl rfl (congrArg PV.bool c12) (all1 (VRd.ntl (rd_fieldVaddr rfl tf_24_1 ts_3 (by decide))) all0) ?_
                refine dops_takeW [(low, [])] rfl rfl rfl (congrArg PV.bool c12) (all1 (VRd.ntl (rd_loadV1 rfl ta_3 rfl)) all0) ?_
                refine dops_takeW [(low, [])] rfl rfl rfl (congrArg PV.bool c12) (all1 (VRd.ntl (rd_mvV rfl)) all0) ?_
                refine dops_takeW [(low, [])] rfl rfl rfl (congrArg PV.bool c12) (all1 (VRd.ntl (rd_mvI rfl)) all0) ?_
                refine dops_takeW [(low, [])] rfl rfl rfl (congrArg PV.bool c12) (all1 (VRd.ntl (rd_to (rd_ixV rfl rfl h16 te_29 ts_24) (v' := .vptr [.int .i64 x15.Address, .int .i64 x15.Kind, .vs 1 (List.map (PV.int .u8) x15.Data)] 0) rfl)) all0) ?_
                refine dops_takeW [(low, [])] rfl rfl rfl (congrArg PV.bool c12) (all1 (VRd.ntl (rd_fieldVaddr rfl tf_24_1 ts_3 (by decide))) all0) ?_
                refine dops_takeW [(low, [])] rfl rfl rfl (congrArg PV.bool c12) (all1 (VRd.ntl (rd_loadV1 rfl ta_3 rfl)) all0) ?_
                refine dops_takeW [(low, [])] rfl rfl rfl (congrArg PV.bool c12) (all1 (VRd.ntl (rd_neq rfl rfl)) all0) ?_
                refine dops_rdW [(low, [])] rfl rfl (all1 (VRd.ntl (rd_pickF (congrArg PV.bool c12) rfl)) all0) ?_
                refine dops_rdW [(low, [])] rfl rfl (all1 (VRd.ntl (rd_mvB rfl)) all0) ?_
                refine dops_skip rfl rfl rfl (neT c17) ?_
                refine dops_skip rfl rfl rfl (neT c17) ?_
                refine dops_skip rfl rfl rfl (neT c17) ?_
                refine dops_skip rfl rfl rfl (neT c17) ?_
                refine dops_skip rfl rfl rfl (neT c17) ?_
                refine dops_skip rfl rfl rfl (neT c17) ?_
                refine dops_skip rfl rfl rfl (neT c17) ?_
                refine dops_skip rfl rfl rfl (neT c17) ?_
                refine dops_skip rfl rfl rfl (neT c17) ?_
                refine dops_skip rfl rfl rfl (neT c17) ?_
                refine dops_skip rfl rfl rfl (neT c17) ?_
                refine dops_skip rfl rfl rfl (neT c17) ?_
                refine dops_skip rfl rfl rfl (neT c17) ?_
                refine dops_rdW [(low, [])] rfl rfl (all1 (VRd.ntl (rd_pickT (congrArg PV.bool c17) rfl)) all0) ?_
                refine dops_nil ?_
                obtain rfl := Option.some.inj hF
                refine onlyE ?_
                exact weak_sub ⟨rfl, rfl, rfl, rfl, trivial⟩
              · have hF := bifF c17 hF
                obtain ⟨x18, h19, hF⟩ := bnd hF
                obtain ⟨x20, h21, hF⟩ := bnd hF
                refine vwp_drawn [[], [], [0, 1], [0, 1, 2], [0, 1, 2, 3], [], [], [5, 6], [5, 6, 7], [5, 6, 7, 8], [0, 1, 2, 3, 4, 5, 6, 7, 8, 9], [0, 1, 2, 3, 4, 5, 6, 7, 8, 9, 10], [0, 1, 2, 3, 4, 5, 6, 7, 8, 9, 10, 11], [0, 1, 2, 3, 4, 5, 6, 7, 8, 9, 10, 11], [0, 1, 2, 3, 4, 5, 6, 7, 8, 9, 10, 11, 12, 13], [0, 1, 2, 3, 4, 5, 6, 7, 8, 9, 10, 11, 12, 13, 14], [0, 1, 2, 3, 4, 5, 6, 7, 8, 9, 10, 11, 12, 13, 14, 15], [0, 1, 2, 3, 4, 5, 6, 7, 8, 9, 10, 11], [0, 1, 2, 3, 4, 5, 6, 7, 8, 9, 10, 11], [0, 1, 2, 3, 4, 5, 6, 7, 8, 9, 10, 11, 17, 18], [0, 1, 2, 3, 4, 5, 6, 7, 8, 9, 10, 11, 17, 18, 19], [0, 1, 2, 3, 4, 5, 6, 7, 8, 9, 10, 11, 17, 18, 19, 20], [0, 1, 2, 3, 4, 5, 6, 7, 8, 9, 10, 11, 12, 13, 14, 15, 16, 17, 18, 19, 20, 21], [0, 1, 2, 3, 4, 5, 6, 7, 8, 9, 10, 11, 12, 13, 14, 15, 16, 17, 18, 19, 20, 21, 22], [0, 1, 2, 3, 4, 5, 6, 7, 8, 9, 10, 11, 12, 13, 14, 15, 16, 17, 18, 19, 20, 21, 22, 23], [0, 1, 2, 3, 4, 5, 6, 7, 8, 9, 10, 11, 12, 13, 14, 15, 16, 17, 18, 19, 20, 21, 22, 23, 24], [0, 1, 2, 3, 4, 5, 6, 7, 8, 9, 10, 11, 12, 13, 14, 15, 16, 17, 18, 19, 20, 21, 22, 23, 24], [0, 1, 2, 3, 4, 5, 6, 7, 8, 9, 10, 11, 12, 13, 14, 15, 16, 17, 18, 19, 20, 21, 22, 23, 24, 25, 26], [0, 1, 2, 3, 4, 5, 6, 7, 8, 9, 10, 11, 12, 13, 14, 15, 16, 17, 18, 19, 20, 21, 22, 23, 24, 25, 26, 27], [0, 1, 2, 3, 4, 5, 6, 7, 8, 9, 10, 11, 12, 13, 14, 15, 16, 17, 18, 19, 20, 21, 22, 23, 24, 25, 26, 27, 28], [0, 1, 2, 3, 4, 5, 6, 7, 8, 9, 10, 11, 12, 13, 14, 15, 16, 17, 18, 19, 20, 21, 22, 23, 24, 25, 26, 27, 28, 29], [0, 1, 2, 3, 4, 5, 6, 7, 8, 9, 10, 11, 12, 13, 14, 15, 16, 17, 18, 19, 20, 21, 22, 23, 24], [0, 1, 2, 3, 4, 5, 6, 7, 8, 9, 10, 11, 12, 13, 14, 15, 16, 17, 18, 19, 20, 21, 22, 23, 24], [0, 1, 2, 3, 4, 5, 6, 7, 8, 9, 10, 11, 12, 13, 14, 15, 16, 17, 18, 19, 20, 21, 22, 23, 24, 31, 32], [0, 1, 2, 3, 4, 5, 6, 7, 8, 9, 10, 11, 12, 13, 14, 15, 16, 17, 18, 19, 20, 21, 22, 23, 24, 31, 32, 33], [0, 1, 2, 3, 4, 5, 6, 7, 8, 9, 10, 11, 12, 13, 14, 15, 16, 17, 18, 19, 20, 21, 22, 23, 24, 31, 32, 33, 34], [0, 1, 2, 3, 4, 5, 6, 7, 8, 9, 10, 11, 12, 13, 14, 15, 16, 17, 18, 19, 20, 21, 22, 23, 24, 31, 32, 33, 34, 35], [0, 1, 2, 3, 4, 5, 6, 7, 8, 9, 10, 11, 12, 13, 14, 15, 16, 17, 18, 19, 20, 21, 22, 23, 24, 25, 26, 27, 28, 29, 30, 31, 32, 33, 34, 35, 36], [0, 1, 2, 3, 4, 5, 6, 7, 8, 9, 10, 11, 12, 13, 14, 15, 16, 17, 18, 19, 20, 21, 22, 23, 24, 25, 26, 27, 28, 29, 30, 31, 32, 33, 34, 35, 36, 37]] [false, false, false, false, false, false, false, false, false, false, false, false, false, false, false, false, false, false, false, false, false, false, false, false, false, false, false, false, false, false, false, false, false, false, false, false, false, false, false] [(low, [])] mixed (by kernel_rfl) rfl (lenAll (all1 rfl all0)) rfl (low, []) rfl rfl ?_
                refine dops_rdW [(low, [])] rfl rfl (all1 (VRd.ntl (rd_mvV rfl)) all0) ?_
                refine dops_rdW [(low, [])] rfl rfl (all1 (VRd.ntl (rd_mvI rfl)) all0) ?_
                refine dops_rdW [(low, [])] rfl rfl (all1 (VRd.ntl (rd_to (rd_ixV rfl rfl h9 te_29 ts_24) (v' := .vptr [.int .i64 x8.Address, .int .i64 x8.Kind, .vs 1 (List.map (PV.int .u8) x8.Data)] 0) rfl)) all0) ?_
                refine dops_rdW [(low, [])] rfl rfl (all1 (VRd.ntl (rd_fieldVaddr rfl tf_24_0 ts_3 (by decide))) all0) ?_
                refine dops_rdW [(low, [])] rfl rfl (all1 (VRd.ntl (rd_loadV1 rfl ta_3 rfl)) all0) ?_
                refine dops_rdW [(low, [])] rfl rfl (all1 (VRd.ntl (rd_mvV rfl)) all0) ?_
                refine dops_rdW [(low, [])] rfl rfl (all1 (VRd.ntl (rd_mvI rfl)) all0) ?_
                refine dops_rdW [(low, [])] rfl rfl (all1 (VRd.ntl (rd_to (rd_ixV rfl rfl h11 te_29 ts_24) (v' := .vptr [.int .i64 x10.Address, .int .i64 x10.Kind, .vs 1 (List.map (PV.int .u8) x10.Data)] 0) rfl)) all0) ?_
                refine dops_rdW [(low, [])] rfl rfl (all1 (VRd.ntl (rd_fieldVaddr rfl tf_24_0 ts_3 (by decide))) all0) ?_
                refine dops_rdW [(low, [])] rfl rfl (all1 (VRd.ntl (rd_loadV1 rfl ta_3 rfl)) all0) ?_
                refine dops_rdW [(low, [])] rfl rfl (all1 (VRd.ntl (rd_neq rfl rfl)) all0) ?_
                refine dops_rdW [(low, [])] rfl rfl (all1 (VRd.ntl (rd_mvB rfl)) all0) ?_
                refine dops_takeW [(low, [])] rfl rfl rfl (congrArg PV.bool c12) (all1 (VRd.ntl (rd_mvV rfl)) all0) ?_
                refine dops_takeW [(low, [])] rfl rfl rfl (congrArg PV.bool c12) (all1 (VRd.ntl (rd_mvI rfl)) all0) ?_
                refine dops_takeW [(low, [])] rfl rfl rfl (congrArg PV.bool c12) (all1 (VRd.ntl (rd_to (rd_ixV rfl rfl h14 te_29 ts_24) (v' := .vptr [.int .i64 x13.Address, .int .i64 x13.Kind, .vs 1 (List.map (PV.int .u8) x13.Data)] 0) rfl)) all0) ?_
                refine dops_takeW [(low, [])] rfl rfl rfl (congrArg PV.bool c12) (all1 (VRd.ntl (rd_fieldVaddr rfl tf_24_1 ts_3 (by decide))) all0) ?_
                refine dops_takeW [(low, [])] rfl rfl rfl (congrArg PV.bool c12) (all1 (VRd.ntl (rd_loadV1 rfl ta_3 rfl)) all0) ?_
                refine dops_takeW [(low, [])] rfl rfl rfl (congrArg PV.bool c12) (all1 (VRd.ntl (rd_mvV rfl)) all0) ?_
                refine dops_takeW [(low, [])] rfl rfl rfl (congrArg PV.bool c12) (all1 (VRd.ntl (rd_mvI rfl)) all0) ?_
                refine dops_takeW [(low, [])] rfl rfl rfl (congrArg PV.bool c12) (all1 (VRd.ntl (rd_to (rd_ixV rfl rfl h16 te_29 ts_24) (v' := .vptr [.int .i64 x15.Address, .int .i64 x15.Kind, .vs 1 (List.map (PV.int .u8) x15.Data)] 0) rfl)) all0) ?_
                refine dops_takeW [(low, [])] rfl rfl rfl (congrArg PV.bool c12) (all1 (VRd.ntl (rd_fieldVaddr rfl tf_24_1 ts_3 (by decide))) all0) ?_
                refine dops_takeW [(low, [])] rfl rfl rfl (congrArg PV.bool c12) (all1 (VRd.ntl (rd_loadV1 rfl ta_3 rfl)) all0) ?_
                refine dops_takeW [(low, [])] rfl rfl rfl (congrArg PV.bool c12) (all1 (VRd.ntl (rd_neq rfl rfl)) all0) ?_
                refine dops_rdW [(low, [])] rfl rfl (all1 (VRd.ntl (rd_pickF (congrArg PV.bool c12) rfl)) all0) ?_
                refine dops_rdW [(low, [])] rfl rfl (all1 (VRd.ntl (rd_mvB rfl)) all0) ?_
                refine dops_takeW [(low, [])] rfl rfl rfl (congrArg PV.bool c17) (all1 (VRd.ntl (rd_mvV rfl)) all0) ?_
                refine dops_takeW [(low, [])] rfl rfl rfl (congrArg PV.bool c17) (all1 (VRd.ntl (rd_mvI rfl)) all0) ?_
                refine dops_takeW [(low, [])] rfl rfl rfl (congrArg PV.bool c17) (all1 (VRd.ntl (rd_to (rd_ixV rfl rfl h19 te_29 ts_24) (v' := .vptr [.int .i64 x18.Address, .int .i64 x18.Kind, .vs 1 (List.map (PV.int .u8) x18.Data)] 0) rfl)) all0) ?_
                refine dops_takeW [(low, [])] rfl rfl rfl (congrArg PV.bool c17) (all1 (VRd.ntl (rd_fieldVaddr rfl tf_24_2 ts_22 (by decide))) all0) ?_
                refine dops_takeW [(low, [])] rfl rfl rfl (congrArg PV.bool c17) (all1 (VRd.ntl (rd_loadV1 rfl ta_22 rfl)) all0) ?_
                refine dops_takeW [(low, [])] rfl rfl rfl (congrArg PV.bool c17) (all1 (VRd.ntl (rd_str (xs := x18.Data) (src_vs rfl) te_22 ti_5 tst_9)) all0) ?_
                refine dops_takeW [(low, [])] rfl rfl rfl (congrArg PV.bool c17) (all1 (VRd.ntl (rd_mvV rfl)) all0) ?_
                refine dops_takeW [(low, [])] rfl rfl rfl (congrArg PV.bool c17) (all1 (VRd.ntl (rd_mvI rfl)) all0) ?_
                refine dops_takeW [(low, [])] rfl rfl rfl (congrArg PV.bool c17) (all1 (VRd.ntl (rd_to (rd_ixV rfl rfl h21 te_29 ts_24) (v' := .vptr [.int .i64 x20.Address, .int .i64 x20.Kind, .vs 1 (List.map (PV.int .u8) x20.Data)] 0) rfl)) all0) ?_
                refine dops_takeW [(low, [])] rfl rfl rfl (congrArg PV.bool c17) (all1 (VRd.ntl (rd_fieldVaddr rfl tf_24_2 ts_22 (by decide))) all0) ?_
                refine dops_takeW [(low, [])] rfl rfl rfl (congrArg PV.bool c17) (all1 (VRd.ntl (rd_loadV1 rfl ta_22 rfl)) all0) ?_
                refine dops_takeW [(low, [])] rfl rfl rfl (congrArg PV.bool c17) (all1 (VRd.ntl (rd_str (xs := x20.Data) (src_vs rfl) te_22 ti_5 tst_9)) all0) ?_
                refine dops_takeW [(low, [])] rfl rfl rfl (congrArg PV.bool c17) (all1 (VRd.ntl (rd_neqS rfl rfl)) all0) ?_
                refine dops_rdW [(low, [])] rfl rfl (all1 (VRd.ntl (rd_pickF (congrArg PV.bool c17) rfl)) all0) ?_
                refine dops_nil ?_
                obtain rfl := Option.some.inj hF
                refine onlyE ?_
                exact weak_sub ⟨rfl, rfl, rfl, rfl, trivial⟩
          · rintro _ _ _ _ ⟨rfl, hw⟩
            refine ⟨_, _, _, hw, ?_⟩
            refine vwp_cond rfl (fun c22 => ?_) (fun c22 => ?_)
            · have hF := bifT c22 hF
              refine vwp_seq ?_
              refine vwp_region ?_
              refine vops_rd (rd_asB rfl) rfl ?_
              refine vops_nil ?_
              refine vwp_ret ?_
              obtain rfl := Option.some.inj hF
              refine onlyE ?_
              exact weak_sub ⟨rfl, trivial⟩
            · have hF := bifF c22 hF
              refine vwp_skip ?_
              refine vwp_region ?_
              refine vops_rd (rd_mvI rfl) rfl ?_
              refine vops_rd (rd_add rfl rfl rfl) rfl ?_
              refine vops_rd (rd_asI rfl) rfl ?_
              refine vops_nil ?_
              obtain rfl := Option.some.inj hF
              refine onlyE ?_
              exact weak_sub ⟨rfl, rfl, rfl, trivial⟩
        · have hF := bifF c6 hF
          refine vwp_exit ?_
          obtain rfl := Option.some.inj hF
          refine onlyE ?_
          exact weak_sub trivial
      · rcases o3 with j4 | j5
        · replace hF := elimL hF
          rintro _ _ _ _ ⟨rfl, hw⟩
          refine ⟨_, _, _, hw, ?_⟩
          obtain rfl := Option.some.inj hF
          refine fnR ?_
          exact weak_sub ⟨rfl, trivial⟩
        · replace hF := elimR hF
          rintro _ _ _ _ ⟨rfl, hw⟩
          refine ⟨_, _, _, hw, ?_⟩
          refine vwp_seq ?_
          refine vwp_region ?_
          refine vops_rd (rd_asB rfl) rfl ?_
          refine vops_nil ?_
          refine vwp_ret ?_
          obtain rfl := Option.some.inj hF
          refine fnR ?_
          exact weak_sub ⟨rfl, trivial⟩
  · rintro _ _ _ _ ⟨he, hw⟩
    refine ⟨_, _, _, hw, ?_⟩
    exact bodyQ_pure he [.bool r] ⟨rfl, trivial⟩ (.bool _) ⟨rfl, rfl⟩

theorem F_law04_awake_ok  {r : Bool} (hF : F_law04_awake = some r) (low : List AObj) :
    VCalls Try.prog 9 [] low fun x low' => x = .bool r ∧ low' = low := by
  refine vcalls_of_body (nt := 55) (rs := [.tmp 0]) Try.func9 rfl rfl (Nat.le_of_ble_eq_true rfl) rfl ?_
  refine vwp_monoW (Q' := FnE (fun E' lw lc => Weak E' lw lc [(0, .bool r)] low [])) ?_ ?_
  · unfold F_law04_awake at hF
    refine vwp_seq ?_
    refine vwp_region ?_
    refine vops_rd (rd_asB rfl) rfl ?_
    refine vops_nil ?_
    refine vwp_seq ?_
    refine vwp_region ?_
    refine vops_efE (vef_litF (es := List.map (PV.int .u8) [4, 5]) ⟨rfl, rfl, rfl, rfl, trivial⟩ rfl rfl (nt_all rfl) te_22 ts_5 tz_5 rfl rfl (Nat.succ_pos _) (by decide) (lt_map (fun _ => .int _ _))) rfl ?_
    refine vops_rd (rd_build (vs := [(0, .int .i64 3), (1, .int .i64 1), (2, .vs 1 (List.map (PV.int .u8) [4, 5]))]) (ds := [.int .i64 3, .int .i64 1, .vs 1 (List.map (PV.int .u8) [4, 5])]) tz_24 rfl rfl tp_24 ⟨rfl, rfl, rfl, rfl, rfl, rfl, trivial⟩ (nt_all2 rfl) rfl) rfl ?_
    refine vops_efE (vef_allocN rfl rfl tz_24 rfl rfl (Nat.succ_pos _) rfl) rfl ?_
    refine vops_efE (vef_store (p := .agg [.int .i64 3, .int .i64 1, .vs 1 (List.map (PV.int .u8) [4, 5])]) (e' := .agg [.int .i64 3, .int .i64 1, .vs 1 (List.map (PV.int .u8) [4, 5])]) rfl (getO_N rfl rfl) rfl rfl ts_24 rfl (nt_ne rfl) rfl (Nat.le_of_ble_eq_true rfl) rfl (setO_N rfl rfl)) rfl ?_
    refine vops_nil ?_
    refine vwp_seq ?_
    refine vwp_region ?_
    obtain ⟨x1, h2, hF⟩ := bnd hF
    refine vops_rd (rd_loadN (ds := [.int .i64 3, .int .i64 1, .vs 1 (List.map (PV.int .u8) [4, 5])]) rfl (getO_N rfl rfl) rfl ta_24 ts_24 rfl rfl rfl) rfl ?_
    refine vops_efE (vef_callP rfl Try.call12 (F_telegram_Write_ok h2 _)) rfl ?_
    refine vops_rd (rd_mvT rfl) rfl ?_
    refine vops_rd (rd_extract rfl rfl) rfl ?_
    refine vops_rd (rd_extract rfl rfl) rfl ?_
    refine vops_rd (rd_asV rfl) rfl ?_
    refine vops_rd (rd_asI rfl) rfl ?_
    refine vops_nil ?_
    refine vwp_seq ?_
    refine vwp_region ?_
    obtain ⟨x3, h4, hF⟩ := bnd hF
    refine vops_efE (vef_litF (es := List.map (PV.int .u8) [9]) ⟨rfl, rfl, trivial⟩ rfl rfl (nt_all rfl) te_22 ts_5 tz_5 rfl rfl (Nat.succ_pos _) (by decide) (lt_map (fun _ => .int _ _))) rfl ?_
    refine vops_rd (rd_build (vs := [(0, .vs 1 (List.map (PV.int .u8) [9]))]) (ds := [.vs 1 (List.map (PV.int .u8) [9]), .int .i64 0]) tz_36 rfl rfl tp_36 ⟨rfl, rfl, trivial⟩ (nt_all2 rfl) rfl) rfl ?_
    refine vops_rd (rd_mvV rfl) rfl ?_
    refine vops_efE (vef_callP rfl Try.call18 (F_telegram_Feed_ok h4 _)) rfl ?_
    refine vops_rd (rd_mvT rfl) rfl ?_
    refine vops_rd (rd_extract rfl rfl) rfl ?_
    refine vops_rd (rd_extract rfl rfl) rfl ?_
    refine vops_efE (vef_allocN rfl rfl tz_36 rfl rfl (Nat.succ_pos _) rfl) rfl ?_
    refine vops_efE (vef_store (p := .agg [.vs 1 (List.map (PV.int .u8) x3.1.Held), .int .i64 x3.1.Dropped]) (e' := .agg [.vs 1 (List.map (PV.int .u8) x3.1.Held), .int .i64 x3.1.Dropped]) rfl (getO_N rfl rfl) rfl rfl ts_36 rfl (nt_ne rfl) rfl (Nat.le_of_ble_eq_true rfl) rfl (setO_N rfl rfl)) rfl ?_
    refine vops_rd (rd_asV rfl) rfl ?_
    refine vops_nil ?_
    refine vwp_seq ?_
    refine vwp_region ?_
    rcases Bool.eq_false_or_eq_true (decide (x1.2 = 0)) with c5 | c5
    · have hF := bifT c5 hF
      rcases Bool.eq_false_or_eq_true (decide (((x1.1).length : Int) = 8)) with c6 | c6
      · have hF := bifT c6 hF
        obtain ⟨x7, h8, hF⟩ := bnd hF
        rcases Bool.eq_false_or_eq_true (decide (x7 = 10673)) with c9 | c9
        · have hF := bifT c9 hF
          rcases Bool.eq_false_or_eq_true (decide (((x3.2).length : Int) = 1)) with c10 | c10
          · have hF := bifT c10 hF
            obtain ⟨x11, h12, hF⟩ := bnd hF
            rcases Bool.eq_false_or_eq_true x11 with c13 | c13
            · have hF := bifT c13 hF
              rcases Bool.eq_false_or_eq_true (decide (x3.1.Dropped = 1)) with c14 | c14
              · have hF := bifT c14 hF
                refine vops_rd (rd_mvI rfl) rfl ?_
                refine vops_rd (rd_eql rfl rfl) rfl ?_
                refine vops_rd (rd_mvB rfl) rfl ?_
                refine vops_take rfl (congrArg PV.bool c5) ?_
                refine vops_rd (rd_mvV rfl) rfl ?_
                refine vops_take rfl (congrArg PV.bool c5) ?_
                refine vops_rd (rd_to (rd_lenV rfl rfl te_22) (congrArg (fun n : Nat => PV.int .i64 (n : Int)) (List.length_map _))) rfl ?_
                refine vops_take rfl (congrArg PV.bool c5) ?_
                refine vops_rd (rd_eql rfl rfl) rfl ?_
                refine vops_rd (rd_pickT (congrArg PV.bool c5) rfl) rfl ?_
                refine vops_rd (rd_mvB rfl) rfl ?_
                refine vops_take rfl (congrArg PV.bool c6) ?_
                refine vops_efE (vef_litN rfl rfl (es := List.map (PV.int .u8) [49, 50, 51, 52, 53, 54, 55, 56, 57]) ⟨rfl, rfl, rfl, rfl, rfl, rfl, rfl, rfl, rfl, rfl, rfl, rfl, rfl, rfl, rfl, rfl, rfl, rfl, trivial⟩ rfl rfl (nt_all rfl) te_22 ts_5 tz_5 rfl rfl (Nat.succ_pos _) (by decide)) rfl ?_
                refine vops_take rfl (congrArg PV.bool c6) ?_
                refine vops_efE (vef_convB (k := 2) (l := [49, 50, 51, 52, 53, 54, 55, 56, 57]) (loc1 := [⟨24, 3, [.agg [.int .i64 3, .int .i64 1, .vs 1 (List.map (PV.int .u8) [4, 5])]], 0⟩, ⟨36, 2, [.agg [.vs 1 (List.map (PV.int .u8) x3.1.Held), .int .i64 x3.1.Dropped]], 0⟩, ⟨5, 1, [], 0 + 1⟩]) rfl rfl rfl rfl rfl te_22 ti_5 rfl) rfl ?_
                refine vops_take rfl (congrArg PV.bool c6) ?_
                refine vops_efE (vef_callP rfl Try.call14 (F_telegram_Check_ok h8 _)) rfl ?_
                refine vops_take rfl (congrArg PV.bool c6) ?_
                refine vops_rd (rd_eql rfl rfl) rfl ?_
                refine vops_rd (rd_pickT (congrArg PV.bool c6) rfl) rfl ?_
                refine vops_rd (rd_mvB rfl) rfl ?_
                refine vops_take rfl (congrArg PV.bool c9) ?_
                refine vops_rd (rd_mvV rfl) rfl ?_
                refine vops_take rfl (congrArg PV.bool c9) ?_
                refine vops_rd (rd_to (rd_lenV rfl rfl te_29) (congrArg (fun n : Nat => PV.int .i64 (n : Int)) (List.length_map _))) rfl ?_
                refine vops_take rfl (congrArg PV.bool c9) ?_
                refine vops_rd (rd_eql rfl rfl) rfl ?_
                refine vops_rd (rd_pickT (congrArg PV.bool c9) rfl) rfl ?_
                refine vops_rd (rd_mvB rfl) rfl ?_
                refine vops_take rfl (congrArg PV.bool c10) ?_
                refine vops_rd (rd_mvV rfl) rfl ?_
                refine vops_take rfl (congrArg PV.bool c10) ?_
                refine vops_rd (rd_loadN (ds := [.int .i64 3, .int .i64 1, .vs 1 (List.map (PV.int .u8) [4, 5])]) rfl (getO_N rfl rfl) rfl ta_24 ts_24 rfl rfl rfl) rfl ?_
                refine vops_take rfl (congrArg PV.bool c10) ?_
                refine vops_efE (vef_litF (es := List.map T_Frame.enc [(T_Frame.mk 3 1 [4, 5])]) ⟨rfl, rfl, trivial⟩ rfl rfl (nt_all rfl) te_29 ts_24 tz_24 rfl rfl (Nat.succ_pos _) (by decide) (lt_map T_Frame.enc_lt)) rfl ?_
                refine vops_take rfl (congrArg PV.bool c10) ?_
                refine vops_efE (vef_callP rfl Try.call20 (F_ref04_Same_ok h12 _)) rfl ?_
                refine vops_rd (rd_pickT (congrArg PV.bool c10) rfl) rfl ?_
                refine vops_rd (rd_mvB rfl) rfl ?_
                refine vops_take rfl (congrArg PV.bool c13) ?_
                refine vops_rd (rd_fieldAddr rfl tf_36_1 ts_3 (by decide)) rfl ?_
                refine vops_take rfl (congrArg PV.bool c13) ?_
                refine vops_rd (rd_load1 rfl (getO_N rfl rfl) rfl ta_3 rfl) rfl ?_
                refine vops_take rfl (congrArg PV.bool c13) ?_
                refine vops_rd (rd_eql rfl rfl) rfl ?_
                refine vops_rd (rd_pickT (congrArg PV.bool c13) rfl) rfl ?_
                refine vops_rd (rd_mvB rfl) rfl ?_
                refine vops_take rfl (congrArg PV.bool c14) ?_
                refine vops_rd (rd_fieldAddr rfl tf_36_0 ts_22 (by decide)) rfl ?_
                refine vops_take rfl (congrArg PV.bool c14) ?_
                refine vops_rd (rd_load1 rfl (getO_N rfl rfl) rfl ta_22 rfl) rfl ?_
                refine vops_take rfl (congrArg PV.bool c14) ?_
                refine vops_rd (rd_to (rd_lenV rfl rfl te_22) (congrArg (fun n : Nat => PV.int .i64 (n : Int)) (List.length_map _))) rfl ?_
                refine vops_take rfl (congrArg PV.bool c14) ?_
                refine vops_rd (rd_eql rfl rfl) rfl ?_
                refine vops_rd (rd_pickT (congrArg PV.bool c14) rfl) rfl ?_
                refine vops_rd (rd_asB rfl) rfl ?_
                refine vops_nil ?_
                refine vwp_ret ?_
                obtain rfl := Option.some.inj hF
                refine fnR ?_
                exact weak_pick rfl [] (by decide) ⟨rn_low rfl (.bool _), trivial⟩ trivial
              · have hF := bifF c14 hF
                refine vops_rd (rd_mvI rfl) rfl ?_
                refine vops_rd (rd_eql rfl rfl) rfl ?_
                refine vops_rd (rd_mvB rfl) rfl ?_
                refine vops_take rfl (congrArg PV.bool c5) ?_
                refine vops_rd (rd_mvV rfl) rfl ?_
                refine vops_take rfl (congrArg PV.bool c5) ?_
                refine vops_rd (rd_to (rd_lenV rfl rfl te_22) (congrArg (fun n : Nat => PV.int .i64 (n : Int)) (List.length_map _))) rfl ?_
                refine vops_take rfl (congrArg PV.bool c5) ?_
                refine vops_rd (rd_eql rfl rfl) rfl ?_
                refine vops_rd (rd_pickT (congrArg PV.bool c5) rfl) rfl ?_
                refine vops_rd (rd_mvB rfl) rfl ?_
                refine vops_take rfl (congrArg PV.bool c6) ?_
                refine vops_efE (vef_litN rfl rfl (es := List.map (PV.int .u8) [49, 50, 51, 52, 53, 54, 55, 56, 57]) ⟨rfl, rfl, rfl, rfl, rfl, rfl, rfl, rfl, rfl, rfl, rfl, rfl, rfl, rfl, rfl, rfl, rfl, rfl, trivial⟩ rfl rfl (nt_all rfl) te_22 ts_5 tz_5 rfl rfl (Nat.succ_pos _) (by decide)) rfl ?_
                refine vops_take rfl (congrArg PV.bool c6) ?_
                refine vops_efE (vef_convB (k := 2) (l := [49, 50, 51, 52, 53, 54, 55, 56, 57]) (loc1 := [⟨24, 3, [.agg [.int .i64 3, .int .i64 1, .vs 1 (List.map (PV.int .u8) [4, 5])]], 0⟩, ⟨36, 2, [.agg [.vs 1 (List.map (PV.int .u8) x3.1.Held), .int .i64 x3.1.Dropped]], 0⟩, ⟨5, 1, [], 0 + 1⟩]) rfl rfl rfl rfl rfl te_22 ti_5 rfl) rfl ?_
                refine vops_take rfl (congrArg PV.bool c6) ?_
                refine vops_efE (vef_callP rfl Try.call14 (F_telegram_Check_ok h8 _)) rfl ?_
                refine vops_take rfl (congrArg PV.bool c6) ?_
                refine vops_rd (rd_eql rfl rfl) rfl ?_
                refine vops_rd (rd_pickT (congrArg PV.bool c6) rfl) rfl ?_
                refine vops_rd (rd_mvB rfl) rfl ?_
                refine vops_take rfl (congrArg PV.bool c9) ?_
                refine vops_rd (rd_mvV rfl) rfl ?_
                refine vops_take rfl (congrArg PV.bool c9) ?_
                refine vops_rd (rd_to (rd_lenV rfl rfl te_29) (congrArg (fun n : Nat => PV.int .i64 (n : Int)) (List.length_map _))) rfl ?_
                refine vops_take rfl (congrArg PV.bool c9) ?_
                refine vops_rd (rd_eql rfl rfl) rfl ?_
                refine vops_rd (rd_pickT (congrArg PV.bool c9) rfl) rfl ?_
                refine vops_rd (rd_mvB rfl) rfl ?_
                refine vops_take rfl (congrArg PV.bool c10) ?_
                refine vops_rd (rd_mvV rfl) rfl ?_
                refine vops_take rfl (congrArg PV.bool c10) ?_
                refine vops_rd (rd_loadN (ds := [.int .i64 3, .int .i64 1, .vs 1 (List.map (PV.int .u8) [4, 5])]) rfl (getO_N rfl rfl) rfl ta_24 ts_24 rfl rfl rfl) rfl ?_
                refine vops_take rfl (congrArg PV.bool c10) ?_
                refine vops_efE (vef_litF (es := List.map T_Frame.enc [(T_Frame.mk 3 1 [4, 5])]) ⟨rfl, rfl, trivial⟩ rfl rfl (nt_all rfl) te_29 ts_24 tz_24 rfl rfl (Nat.succ_pos _) (by decide) (lt_map T_Frame.enc_lt)) rfl ?_
                refine vops_take rfl (congrArg PV.bool c10) ?_
                refine vops_efE (vef_callP rfl Try.call20 (F_ref04_Same_ok h12 _)) rfl ?_
                refine vops_rd (rd_pickT (congrArg PV.bool c10) rfl) rfl ?_
                refine vops_rd (rd_mvB rfl) rfl ?_
                refine vops_take rfl (congrArg PV.bool c13) ?_
                refine vops_rd (rd_fieldAddr rfl tf_36_1 ts_3 (by decide)) rfl ?_
                refine vops_take rfl (congrArg PV.bool c13) ?_
                refine vops_rd (rd_load1 rfl (getO_N rfl rfl) rfl ta_3 rfl) rfl ?_
                refine vops_take rfl (congrArg PV.bool c13) ?_
                refine vops_rd (rd_eql rfl rfl) rfl ?_
                refine vops_rd (rd_pickT (congrArg PV.bool c13) rfl) rfl ?_
                refine vops_rd (rd_mvB rfl) rfl ?_
                refine vops_skip rfl rfl (neF c14) rfl ?_
                refine vops_skip rfl rfl (neF c14) rfl ?_
                refine vops_skip rfl rfl (neF c14) rfl ?_
                refine vops_skip rfl rfl (neF c14) rfl ?_
                refine vops_rd (rd_pickF (congrArg PV.bool c14) rfl) rfl ?_
                refine vops_rd (rd_asB rfl) rfl ?_
                refine vops_nil ?_
                refine vwp_ret ?_
                obtain rfl := Option.some.inj hF
                refine fnR ?_
                exact weak_pick rfl [] (by decide) ⟨rn_low rfl (.bool _), trivial⟩ trivial
            · have hF := bifF c13 hF
              refine vops_rd (rd_mvI rfl) rfl ?_
              refine vops_rd (rd_eql rfl rfl) rfl ?_
              refine vops_rd (rd_mvB rfl) rfl ?_
              refine vops_take rfl (congrArg PV.bool c5) ?_
              refine vops_rd (rd_mvV rfl) rfl ?_
              refine vops_take rfl (congrArg PV.bool c5) ?_
              refine vops_rd (rd_to (rd_lenV rfl rfl te_22) (congrArg (fun n : Nat => PV.int .i64 (n : Int)) (List.length_map _))) rfl ?_
              refine vops_take rfl (congrArg PV.bool c5) ?_
              refine vops_rd (rd_eql rfl rfl) rfl ?_
              refine vops_rd (rd_pickT (congrArg PV.bool c5) rfl) rfl ?_
              refine vops_rd (rd_mvB rfl) rfl ?_
              refine vops_take rfl (congrArg PV.bool c6) ?_
              refine vops_efE (vef_litN rfl rfl (es := List.map (PV.int .u8) [49, 50, 51, 52, 53, 54, 55, 56, 57]) ⟨rfl, rfl, rfl, rfl, rfl, rfl, rfl, rfl, rfl, rfl, rfl, rfl, rfl, rfl, rfl, rfl, rfl, rfl, trivial⟩ rfl rfl (nt_all rfl) te_22 ts_5 tz_5 rfl rfl (Nat.succ_pos _) (by decide)) rfl ?_
              refine vops_take rfl (congrArg PV.bool c6) ?_
              refine vops_efE (vef_convB (k := 2) (l := [49, 50, 51, 52, 53, 54, 55, 56, 57]) (loc1 := [⟨24, 3, [.agg [.int .i64 3, .int .i64 1, .vs 1 (List.map (PV.int .u8) [4, 5])]], 0⟩, ⟨36, 2, [.agg [.vs 1 (List.map (PV.int .u8) x3.1.Held), .int .i64 x3.1.Dropped]], 0⟩, ⟨5, 1, [], 0 + 1⟩]) rfl rfl rfl rfl rfl te_22 ti_5 rfl) rfl ?_
              refine vops_take rfl (congrArg PV.bool c6) ?_
              refine vops_efE (vef_callP rfl Try.call14 (F_telegram_Check_ok h8 _)) rfl ?_
              refine vops_take rfl (congrArg PV.bool c6) ?_
              refine vops_rd (rd_eql rfl rfl) rfl ?_
              refine vops_rd (rd_pickT (congrArg PV.bool c6) rfl) rfl ?_
              refine vops_rd (rd_mvB rfl) rfl ?_
              refine vops_take rfl (congrArg PV.bool c9) ?_
              refine vops_rd (rd_mvV rfl) rfl ?_
              refine vops_take rfl (congrArg PV.bool c9) ?_
              refine vops_rd (rd_to (rd_lenV rfl rfl te_29) (congrArg (fun n : Nat => PV.int .i64 (n : Int)) (List.length_map _))) rfl ?_
              refine vops_take rfl (congrArg PV.bool c9) ?_
              refine vops_rd (rd_eql rfl rfl) rfl ?_
              refine vops_rd (rd_pickT (congrArg PV.bool c9) rfl) rfl ?_
              refine vops_rd (rd_mvB rfl) rfl ?_
              refine vops_take rfl (congrArg PV.bool c10) ?_
              refine vops_rd (rd_mvV rfl) rfl ?_
              refine vops_take rfl (congrArg PV.bool c10) ?_
              refine vops_rd (rd_loadN (ds := [.int .i64 3, .int .i64 1, .vs 1 (List.map (PV.int .u8) [4, 5])]) rfl (getO_N rfl rfl) rfl ta_24 ts_24 rfl rfl rfl) rfl ?_
              refine vops_take rfl (congrArg PV.bool c10) ?_
              refine vops_efE (vef_litF (es := List.map T_Frame.enc [(T_Frame.mk 3 1 [4, 5])]) ⟨rfl, rfl, trivial⟩ rfl rfl (nt_all rfl) te_29 ts_24 tz_24 rfl rfl (Nat.succ_pos _) (by decide) (lt_map T_Frame.enc_lt)) rfl ?_
              refine vops_take rfl (congrArg PV.bool c10) ?_
              refine vops_efE (vef_callP rfl Try.call20 (F_ref04_Same_ok h12 _)) rfl ?_
              refine vops_rd (rd_pickT (congrArg PV.bool c10) rfl) rfl ?_
              refine vops_rd (rd_mvB rfl) rfl ?_
              refine vops_skip rfl rfl (neF c13) rfl ?_
              refine vops_skip rfl rfl (neF c13) rfl ?_
              refine vops_skip rfl rfl (neF c13) rfl ?_
              refine vops_rd (rd_pickF (congrArg PV.bool c13) rfl) rfl ?_
              refine vops_rd (rd_mvB rfl) rfl ?_
              refine vops_skip rfl rfl (by decide) rfl ?_
              refine vops_skip rfl rfl (by decide) rfl ?_
              refine vops_skip rfl rfl (by decide) rfl ?_
              refine vops_skip rfl rfl (by decide) rfl ?_
              refine vops_rd (rd_pickF rfl rfl) rfl ?_
              refine vops_rd (rd_asB rfl) rfl ?_
              refine vops_nil ?_
              refine vwp_ret ?_
              obtain rfl := Option.some.inj hF
              refine fnR ?_
              exact weak_pick rfl [] (by decide) ⟨rn_low rfl (.bool _), trivial⟩ trivial
          · have hF := bifF c10 hF
            refine vops_rd (rd_mvI rfl) rfl ?_
            refine vops_rd (rd_eql rfl rfl) rfl ?_
            refine vops_rd (rd_mvB rfl) rfl ?_
            refine vops_take rfl (congrArg PV.bool c5) ?_
            refine vops_rd (rd_mvV rfl) rfl ?_
            refine vops_take rfl (congrArg PV.bool c5) ?_
            refine vops_rd (rd_to (rd_lenV rfl rfl te_22) (congrArg (fun n : Nat => PV.int .i64 (n : Int)) (List.length_map _))) rfl ?_
            refine vops_take rfl (congrArg PV.bool c5) ?_
            refine vops_rd (rd_eql rfl rfl) rfl ?_
            refine vops_rd (rd_pickT (congrArg PV.bool c5) rfl) rfl ?_
            refine vops_rd (rd_mvB rfl) rfl ?_
            refine vops_take rfl (congrArg PV.bool c6) ?_
            refine vops_efE (vef_litN rfl rfl (es := List.map (PV.int .u8) [49, 50, 51, 52, 53, 54, 55, 56, 57]) ⟨rfl, rfl, rfl, rfl, rfl, rfl, rfl, rfl, rfl, rfl, rfl, rfl, rfl, rfl, rfl, rfl, rfl, rfl, trivial⟩ rfl rfl (nt_all rfl) te_22 ts_5 tz_5 rfl rfl (Nat.succ_pos _) (by decide)) rfl ?_
            refine vops_take rfl (congrArg PV.bool c6) ?_
            refine vops_efE (vef_convB (k := 2) (l := [49, 50, 51, 52, 53, 54, 55, 56, 57]) (loc1 := [⟨24, 3, [.agg [.int .i64 3, .int .i64 1, .vs 1 (List.map (PV.int .u8) [4, 5])]], 0⟩, ⟨36, 2, [.agg [.vs 1 (List.map (PV.int .u8) x3.1.Held), .int .i64 x3.1.Dropped]], 0⟩, ⟨5, 1, [], 0 + 1⟩]) rfl rfl rfl rfl rfl te_22 ti_5 rfl) rfl ?_
            refine vops_take rfl (congrArg PV.bool c6) ?_
            refine vops_efE (vef_callP rfl Try.call14 (F_telegram_Check_ok h8 _)) rfl ?_
            refine vops_take rfl (congrArg PV.bool c6) ?_
            refine vops_rd (rd_eql rfl rfl) rfl ?_
            refine vops_rd (rd_pickT (congrArg PV.bool c6) rfl) rfl ?_
            refine vops_rd (rd_mvB rfl) rfl ?_
            refine vops_take rfl (congrArg PV.bool c9) ?_
            refine vops_rd (rd_mvV rfl) rfl ?_
            refine vops_take rfl (congrArg PV.bool c9) ?_
            refine vops_rd (rd_to (rd_lenV rfl rfl te_29) (congrArg (fun n : Nat => PV.int .i64 (n : Int)) (List.length_map _))) rfl ?_
            refine vops_take rfl (congrArg PV.bool c9) ?_
            refine vops_rd (rd_eql rfl rfl) rfl ?_
            refine vops_rd (rd_pickT (congrArg PV.bool c9) rfl) rfl ?_
            refine vops_rd (rd_mvB rfl) rfl ?_
            refine vops_skip rfl rfl (neF c10) rfl ?_
            refine vops_skip rfl rfl (neF c10) rfl ?_
            refine vops_skip rfl rfl (neF c10) rfl ?_
            refine vops_skip rfl rfl (neF c10) rfl ?_
            refine vops_rd (rd_pickF (congrArg PV.bool c10) rfl) rfl ?_
            refine vops_rd (rd_mvB rfl) rfl ?_
            refine vops_skip rfl rfl (by decide) rfl ?_
            refine vops_skip rfl rfl (by decide) rfl ?_
            refine vops_skip rfl rfl (by decide) rfl ?_
            refine vops_rd (rd_pickF rfl rfl) rfl ?_
            refine vops_rd (rd_mvB rfl) rfl ?_
            refine vops_skip rfl rfl (by decide) rfl ?_
            refine vops_skip rfl rfl (by decide) rfl ?_
            refine vops_skip rfl rfl (by decide) rfl ?_
            refine vops_skip rfl rfl (by decide) rfl ?_
            refine vops_rd (rd_pickF rfl rfl) rfl ?_
            refine vops_rd (rd_asB rfl) rfl ?_
            refine vops_nil ?_
            refine vwp_ret ?_
            obtain rfl := Option.some.inj hF
            refine fnR ?_
            exact weak_pick rfl [] (by decide) ⟨rn_low rfl (.bool _), trivial⟩ trivial
        · have hF := bifF c9 hF
          refine vops_rd (rd_mvI rfl) rfl ?_
          refine vops_rd (rd_eql rfl rfl) rfl ?_
          refine vops_rd (rd_mvB rfl) rfl ?_
          refine vops_take rfl (congrArg PV.bool c5) ?_
          refine vops_rd (rd_mvV rfl) rfl ?_
          refine vops_take rfl (congrArg PV.bool c5) ?_
          refine vops_rd (rd_to (rd_lenV rfl rfl te_22) (congrArg (fun n : Nat => PV.int .i64 (n : Int)) (List.length_map _))) rfl ?_
          refine vops_take rfl (congrArg PV.bool c5) ?_
          refine vops_rd (rd_eql rfl rfl) rfl ?_
          refine vops_rd (rd_pickT (congrArg PV.bool c5) rfl) rfl ?_
          refine vops_rd (rd_mvB rfl) rfl ?_
          refine vops_take rfl (congrArg PV.bool c6) ?_
          refine vops_efE (vef_litN rfl rfl (es := List.map (PV.int .u8) [49, 50, 51, 52, 53, 54, 55, 56, 57]) ⟨rfl, rfl, rfl, rfl, rfl, rfl, rfl, rfl, rfl, rfl, rfl, rfl, rfl, rfl, rfl, rfl, rfl, rfl, trivial⟩ rfl rfl (nt_all rfl) te_22 ts_5 tz_5 rfl rfl (Nat.succ_pos _) (by decide)) rfl ?_
          refine vops_take rfl (congrArg PV.bool c6) ?_
          refine vops_efE (vef_convB (k := 2) (l := [49, 50, 51, 52, 53, 54, 55, 56, 57]) (loc1 := [⟨24, 3, [.agg [.int .i64 3, .int .i64 1, .vs 1 (List.map (PV.int .u8) [4, 5])]], 0⟩, ⟨36, 2, [.agg [.vs 1 (List.map (PV.int .u8) x3.1.Held), .int .i64 x3.1.Dropped]], 0⟩, ⟨5, 1, [], 0 + 1⟩]) rfl rfl rfl rfl rfl te_22 ti_5 rfl) rfl ?_
          refine vops_take rfl (congrArg PV.bool c6) ?_
          refine vops_efE (vef_callP rfl Try.call14 (F_telegram_Check_ok h8 _)) rfl ?_
          refine vops_take rfl (congrArg PV.bool c6) ?_
          refine vops_rd (rd_eql rfl rfl) rfl ?_
          refine vops_rd (rd_pickT (congrArg PV.bool c6) rfl) rfl ?_
          refine vops_rd (rd_mvB rfl) rfl ?_
          refine vops_skip rfl rfl (neF c9) rfl ?_
          refine vops_skip rfl rfl (neF c9) rfl ?_
          refine vops_skip rfl rfl (neF c9) rfl ?_
          refine vops_rd (rd_pickF (congrArg PV.bool c9) rfl) rfl ?_
          refine vops_rd (rd_mvB rfl) rfl ?_
          refine vops_skip rfl rfl (by decide) rfl ?_
          refine vops_skip rfl rfl (by decide) rfl ?_
          refine vops_skip rfl rfl (by decide) rfl ?_
          refine vops_skip rfl rfl (by decide) rfl ?_
          refine vops_rd (rd_pickF rfl rfl) rfl ?_
          refine vops_rd (rd_mvB rfl) rfl ?_
          refine vops_skip rfl rfl (by decide) rfl ?_
          refine vops_skip rfl rfl (by decide) rfl ?_
          refine vops_skip rfl rfl (by decide) rfl ?_
          refine vops_rd (rd_pickF rfl rfl) rfl ?_
          refine vops_rd (rd_mvB rfl) rfl ?_
          refine vops_skip rfl rfl (by decide) rfl ?_
          refine vops_skip rfl rfl (by decide) rfl ?_
          refine vops_skip rfl rfl (by decide) rfl ?_
          refine vops_skip rfl rfl (by decide) rfl ?_
          refine vops_rd (rd_pickF rfl rfl) rfl ?_
          refine vops_rd (rd_asB rfl) rfl ?_
          refine vops_nil ?_
          refine vwp_ret ?_
          obtain rfl := Option.some.inj hF
          refine fnR ?_
          exact weak_pick rfl [] (by decide) ⟨rn_low rfl (.bool _), trivial⟩ trivial
      · have hF := bifF c6 hF
        refine vops_rd (rd_mvI rfl) rfl ?_
        refine vops_rd (rd_eql rfl rfl) rfl ?_
        refine vops_rd (rd_mvB rfl) rfl ?_
        refine vops_take rfl (congrArg PV.bool c5) ?_
        refine vops_rd (rd_mvV rfl) rfl ?_
        refine vops_take rfl (congrArg PV.bool c5) ?_
        refine vops_rd (rd_to (rd_lenV rfl rfl te_22) (congrArg (fun n : Nat => PV.int .i64 (n : Int)) (List.length_map _))) rfl ?_
        refine vops_take rfl (congrArg PV.bool c5) ?_
        refine vops_rd (rd_eql rfl rfl) rfl ?_
        refine vops_rd (rd_pickT (congrArg PV.bool c5) rfl) rfl ?_
        refine vops_rd (rd_mvB rfl) rfl ?_
        refine vops_skip rfl rfl (neF c6) rfl ?_
        refine vops_skip rfl rfl (neF c6) rfl ?_
        refine vops_skip rfl rfl (neF c6) rfl ?_
        refine vops_skip rfl rfl (neF c6) rfl ?_
        refine vops_rd (rd_pickF (congrArg PV.bool c6) rfl) rfl ?_
        refine vops_rd (rd_mvB rfl) rfl ?_
        refine vops_skip rfl rfl (by decide) rfl ?_
        refine vops_skip rfl rfl (by decide) rfl ?_
        refine vops_skip rfl rfl (by decide) rfl ?_
        refine vops_rd (rd_pickF rfl rfl) rfl ?_
        refine vops_rd (rd_mvB rfl) rfl ?_
        refine vops_skip rfl rfl (by decide) rfl ?_
        refine vops_skip rfl rfl (by decide) rfl ?_
        refine vops_skip rfl rfl (by decide) rfl ?_
        refine vops_skip rfl rfl (by decide) rfl ?_
        refine vops_rd (rd_pickF rfl rfl) rfl ?_
        refine vops_rd (rd_mvB rfl) rfl ?_
        refine vops_skip rfl rfl (by decide) rfl ?_
        refine vops_skip rfl rfl (by decide) rfl ?_
        refine vops_skip rfl rfl (by decide) rfl ?_
        refine vops_rd (rd_pickF rfl rfl) rfl ?_
        refine vops_rd (rd_mvB rfl) rfl ?_
        refine vops_skip rfl rfl (by decide) rfl ?_
        refine vops_skip rfl rfl (by decide) rfl ?_
        refine vops_skip rfl rfl (by decide) rfl ?_
        refine vops_skip rfl rfl (by decide) rfl ?_
        refine vops_rd (rd_pickF rfl rfl) rfl ?_
        refine vops_rd (rd_asB rfl) rfl ?_
        refine vops_nil ?_
        refine vwp_ret ?_
        obtain rfl := Option.some.inj hF
        refine fnR ?_
        exact weak_pick rfl [] (by decide) ⟨rn_low rfl (.bool _), trivial⟩ trivial
    · have hF := bifF c5 hF
      refine vops_rd (rd_mvI rfl) rfl ?_
      refine vops_rd (rd_eql rfl rfl) rfl ?_
      refine vops_rd (rd_mvB rfl) rfl ?_
      refine vops_skip rfl rfl (neF c5) rfl ?_
      refine vops_skip rfl rfl (neF c5) rfl ?_
      refine vops_skip rfl rfl (neF c5) rfl ?_
      refine vops_rd (rd_pickF (congrArg PV.bool c5) rfl) rfl ?_
      refine vops_rd (rd_mvB rfl) rfl ?_
      refine vops_skip rfl rfl (by decide) rfl ?_
      refine vops_skip rfl rfl (by decide) rfl ?_
      refine vops_skip rfl rfl (by decide) rfl ?_
      refine vops_skip rfl rfl (by decide) rfl ?_
      refine vops_rd (rd_pickF rfl rfl) rfl ?_
      refine vops_rd (rd_mvB rfl) rfl ?_
      refine vops_skip rfl rfl (by decide) rfl ?_
      refine vops_skip rfl rfl (by decide) rfl ?_
      refine vops_skip rfl rfl (by decide) rfl ?_
      refine vops_rd (rd_pickF rfl rfl) rfl ?_
      refine vops_rd (rd_mvB rfl) rfl ?_
      refine vops_skip rfl rfl (by decide) rfl ?_
      refine vops_skip rfl rfl (by decide) rfl ?_
      refine vops_skip rfl rfl (by decide) rfl ?_
      refine vops_skip rfl rfl (by decide) rfl ?_
      refine vops_rd (rd_pickF rfl rfl) rfl ?_
      refine vops_rd (rd_mvB rfl) rfl ?_
      refine vops_skip rfl rfl (by decide) rfl ?_
      refine vops_skip rfl rfl (by decide) rfl ?_
      refine vops_skip rfl rfl (by decide) rfl ?_
      refine vops_rd (rd_pickF rfl rfl) rfl ?_
      refine vops_rd (rd_mvB rfl) rfl ?_
      refine vops_skip rfl rfl (by decide) rfl ?_
      refine vops_skip rfl rfl (by decide) rfl ?_
      refine vops_skip rfl rfl (by decide) rfl ?_
      refine vops_skip rfl rfl (by decide) rfl ?_
      refine vops_rd (rd_pickF rfl rfl) rfl ?_
      refine vops_rd (rd_asB rfl) rfl ?_
      refine vops_nil ?_
      refine vwp_ret ?_
      obtain rfl := Option.some.inj hF
      refine fnR ?_
      exact weak_pick rfl [] (by decide) ⟨rn_low rfl (.bool _), trivial⟩ trivial
  · rintro _ _ _ _ ⟨he, hw⟩
    refine ⟨_, _, _, hw, ?_⟩
    exact bodyQ_pure he [.bool r] ⟨rfl, trivial⟩ (.bool _) ⟨rfl, rfl⟩

theorem F_draw_New_ok {p0 : List Int} {r : T_draw_Codes} (hF : F_draw_New p0 = some r) (low : List AObj) {n : Nat} (hn : low.length = n) :
    VCalls Try.prog 10 [.vs 1 (List.map (PV.int .u8) p0)] low fun x low' => x = .ptr (n + 0) 0 0 0 ∧ low' = low ++ [⟨48, 2, [.agg [.vs 1 (List.map (PV.int .u8) r.l), .int .i64 r.at_]], 0⟩] := by
  refine vcalls_of_body (nt := 10) (rs := [.tmp 2]) Try.func10 rfl rfl (Nat.le_of_ble_eq_true rfl) rfl ?_
  refine vwp_monoW (Q' := FnE (fun E' lw lc => Weak E' lw lc [(2, .ptr (n + 0) 0 0 0)] low [⟨48, 2, [.agg [.vs 1 (List.map (PV.int .u8) r.l), .int .i64 r.at_]], 0⟩])) ?_ ?_
  · unfold F_draw_New at hF
    refine vwp_seq ?_
    refine vwp_region ?_
    refine vops_rd (rd_asQ rfl) rfl ?_
    refine vops_nil ?_
    refine vwp_seq ?_
    refine vwp_region ?_
    obtain ⟨x1, h2, hF⟩ := bnd hF
    refine vops_rd (rd_mvV rfl) rfl ?_
    refine vops_rd (rd_mvV rfl) rfl ?_
    refine vops_rd (rd_to (rd_lenV rfl rfl te_22) (congrArg (fun n : Nat => PV.int .i64 (n : Int)) (List.length_map _))) rfl ?_
    refine vops_rd (rd_min rfl rfl) rfl ?_
    refine vops_rd (rd_slV rfl te_22 ts_5 rfl ⟨_, rfl⟩ h2) rfl ?_
    refine vops_rd (rd_build (vs := [(0, .vs 1 (List.map (PV.int .u8) x1))]) (ds := [.vs 1 (List.map (PV.int .u8) x1), .int .i64 0]) tz_48 rfl rfl tp_48 ⟨rfl, rfl, trivial⟩ (nt_all2 rfl) rfl) rfl ?_
    refine vops_efE (vef_boxN hn rfl (v := .agg [.vs 1 (List.map (PV.int .u8) x1), .int .i64 0]) rfl rfl (Nat.succ_pos _) rfl rfl) rfl ?_
    refine vops_rd (rd_asP rfl) rfl ?_
    refine vops_nil ?_
    refine vwp_ret ?_
    obtain rfl := Option.some.inj hF
    refine fnR ?_
    exact weak_sub ⟨rfl, trivial⟩
  · rintro _ _ _ _ ⟨he, hw⟩
    refine ⟨_, _, _, hw, ?_⟩
    exact bodyQ_all he [.ptr (n + 0) 0 0 0] ⟨rfl, trivial⟩ ⟨rfl, rfl⟩

theorem F_draw_Codes_Next_ok0 {p0 : T_draw_Codes} {p1 : Int} {r : T_draw_Codes × Int} (hF : F_draw_Codes_Next p0 p1 = some r) {low0 : List AObj} {q0 w0 : Nat} (hq0 : q0 < low0.length) :
    VCalls Try.prog 21 [.ptr q0 w0 0 0, .int .i64 p1] (low0.set q0 ⟨48, 2, [.agg [.vs 1 (List.map (PV.int .u8) p0.l), .int .i64 p0.at_]], w0⟩) fun x low' => x = .int .i64 r.2 ∧ low' = low0.set q0 ⟨48, 2, [.agg [.vs 1 (List.map (PV.int .u8) r.1.l), .int .i64 r.1.at_]], w0⟩ := by
  refine vcalls_of_body (nt := 77) (rs := [.tmp 4]) Try.func21 rfl rfl (Nat.le_of_ble_eq_true rfl) rfl ?_
  refine vwp_monoW (Q' := FnE (fun E' lw lc => Weak E' lw lc [(4, .int .i64 r.2)] (low0.set q0 ⟨48, 2, [.agg [.vs 1 (List.map (PV.int .u8) r.1.l), .int .i64 r.1.at_]], w0⟩) [])) ?_ ?_
  · unfold F_draw_Codes_Next at hF
    refine vwp_seq ?_
    refine vwp_region ?_
    refine vops_rd (rd_asI rfl) rfl ?_
    refine vops_nil ?_
    refine vwp_seq ?_
    refine vwp_seq ?_
    obtain ⟨o1, ho1, hF⟩ := bnd hF
    refine vwp_monoW (Q' := (fun o1 => OnlyE .normal (fun E' lw lc => Weak E' lw lc [(0, .ptr q0 w0 0 0), (1, .int .i64 p1), (19, .bool o1)] (low0.set q0 ⟨48, 2, [.agg [.vs 1 (List.map (PV.int .u8) p0.l), .int .i64 p0.at_]], w0⟩) [])) o1) ?_ ?_
    · replace hF := ho1
      rcases Bool.eq_false_or_eq_true (decide (p1 < 1)) with c2 | c2
      · have hF := bifT c2 hF
        refine vwp_drawn [[], [0], [0, 1], [0, 1, 2], [0, 1, 2, 3], [0, 1, 2, 3, 4], [0, 1, 2, 3, 4, 5], [0, 1, 2], [0, 1, 2, 7], [0, 1, 2, 7, 8], [0, 1, 2, 7, 8, 9], [0, 1, 2, 7, 8, 9, 10], [0, 1, 2, 3, 4, 5, 6, 7, 8, 9, 10, 11], [0, 1, 2, 3, 4, 5, 6, 7, 8, 9, 10, 11, 12]] [false, false, false, false, false, false, false, false, false, false, false, false, false, false] [((low0.set q0 ⟨48, 2, [.agg [.vs 1 (List.map (PV.int .u8) p0.l), .int .i64 p0.at_]], w0⟩), [])] mixed (by kernel_rfl) rfl (lenAll (all1 len_set2 all0)) rfl ((low0.set q0 ⟨48, 2, [.agg [.vs 1 (List.map (PV.int .u8) p0.l), .int .i64 p0.at_]], w0⟩), []) rfl rfl ?_
        refine dops_rdW [((low0.set q0 ⟨48, 2, [.agg [.vs 1 (List.map (PV.int .u8) p0.l), .int .i64 p0.at_]], w0⟩), [])] rfl rfl (all1 (VRd.ntl (rd_mvI rfl)) all0) ?_
        refine dops_rdW [((low0.set q0 ⟨48, 2, [.agg [.vs 1 (List.map (PV.int .u8) p0.l), .int .i64 p0.at_]], w0⟩), [])] rfl rfl (all1 (VRd.ntl (rd_lss rfl rfl)) all0) ?_
        refine dops_rdW [((low0.set q0 ⟨48, 2, [.agg [.vs 1 (List.map (PV.int .u8) p0.l), .int .i64 p0.at_]], w0⟩), [])] rfl rfl (all1 (VRd.ntl (rd_mvB rfl)) all0) ?_
        refine dops_skip rfl rfl rfl (neT c2) ?_
        refine dops_skip rfl rfl rfl (neT c2) ?_
        refine dops_skip rfl rfl rfl (neT c2) ?_
        refine dops_skip rfl rfl rfl (neT c2) ?_
        refine dops_skip rfl rfl rfl (neT c2) ?_
        refine dops_skip rfl rfl rfl (neT c2) ?_
        refine dops_skip rfl rfl rfl (neT c2) ?_
        refine dops_skip rfl rfl rfl (neT c2) ?_
        refine dops_skip rfl rfl rfl (neT c2) ?_
        refine dops_skip rfl rfl rfl (neT c2) ?_
        refine dops_rdW [((low0.set q0 ⟨48, 2, [.agg [.vs 1 (List.map (PV.int .u8) p0.l), .int .i64 p0.at_]], w0⟩), [])] rfl rfl (all1 (VRd.ntl (rd_pickT (congrArg PV.bool c2) rfl)) all0) ?_
        refine dops_nil ?_
        obtain rfl := Option.some.inj hF
        refine onlyE ?_
        exact weak_sub ⟨rfl, rfl, rfl, trivial⟩
      · have hF := bifF c2 hF
        refine vwp_drawn [[], [0], [0, 1], [0, 1, 2], [0, 1, 2, 3], [0, 1, 2, 3, 4], [0, 1, 2, 3, 4, 5], [0, 1, 2], [0, 1, 2, 7], [0, 1, 2, 7, 8], [0, 1, 2, 7, 8, 9], [0, 1, 2, 7, 8, 9, 10], [0, 1, 2, 3, 4, 5, 6, 7, 8, 9, 10, 11], [0, 1, 2, 3, 4, 5, 6, 7, 8, 9, 10, 11, 12]] [false, false, false, false, false, false, false, false, false, false, false, false, false, false] [((low0.set q0 ⟨48, 2, [.agg [.vs 1 (List.map (PV.int .u8) p0.l), .int .i64 p0.at_]], w0⟩), [])] mixed (by kernel_rfl) rfl (lenAll (all1 len_set2 all0)) rfl ((low0.set q0 ⟨48, 2, [.agg [.vs 1 (List.map (PV.int .u8) p0.l), .int .i64 p0.at_]], w0⟩), []) rfl rfl ?_
        refine dops_rdW [((low0.set q0 ⟨48, 2, [.agg [.vs 1 (List.map (PV.int .u8) p0.l), .int .i64 p0.at_]], w0⟩), [])] rfl rfl (all1 (VRd.ntl (rd_mvI rfl)) all0) ?_
        refine dops_rdW [((low0.set q0 ⟨48, 2, [.agg [.vs 1 (List.map (PV.int .u8) p0.l), .int .i64 p0.at_]], w0⟩), [])] rfl rfl (all1 (VRd.ntl (rd_lss rfl rfl)) all0) ?_
        refine dops_rdW [((low0.set q0 ⟨48, 2, [.agg [.vs 1 (List.map (PV.int .u8) p0.l), .int .i64 p0.at_]], w0⟩), [])] rfl rfl (all1 (VRd.ntl (rd_mvB rfl)) all0) ?_
        refine dops_takeW [((low0.set q0 ⟨48, 2, [.agg [.vs 1 (List.map (PV.int .u8) p0.l), .int .i64 p0.at_]], w0⟩), [])] rfl rfl rfl (congrArg PV.bool c2) (all1 (VRd.ntl (rd_mvP rfl)) all0) ?_
        refine dops_takeW [((low0.set q0 ⟨48, 2, [.agg [.vs 1 (List.map (PV.int .u8) p0.l), .int .i64 p0.at_]], w0⟩), [])] rfl rfl rfl (congrArg PV.bool c2) (all1 (VRd.ntl (rd_nilPtr rfl)) all0) ?_
        refine dops_takeW [((low0.set q0 ⟨48, 2, [.agg [.vs 1 (List.map (PV.int .u8) p0.l), .int .i64 p0.at_]], w0⟩), [])] rfl rfl rfl (congrArg PV.bool c2) (all1 (VRd.ntl (rd_fieldAddr rfl tf_48_1 ts_3 (by decide))) all0) ?_
        refine dops_takeW [((low0.set q0 ⟨48, 2, [.agg [.vs 1 (List.map (PV.int .u8) p0.l), .int .i64 p0.at_]], w0⟩), [])] rfl rfl rfl (congrArg PV.bool c2) (all1 (VRd.ntl (rd_load1 rfl (getO_set hq0) rfl ta_3 rfl)) all0) ?_
        refine dops_takeW [((low0.set q0 ⟨48, 2, [.agg [.vs 1 (List.map (PV.int .u8) p0.l), .int .i64 p0.at_]], w0⟩), [])] rfl rfl rfl (congrArg PV.bool c2) (all1 (VRd.ntl (rd_mvP rfl)) all0) ?_
        refine dops_takeW [((low0.set q0 ⟨48, 2, [.agg [.vs 1 (List.map (PV.int .u8) p0.l), .int .i64 p0.at_]], w0⟩), [])] rfl rfl rfl (congrArg PV.bool c2) (all1 (VRd.ntl (rd_nilPtr rfl)) all0) ?_
        refine dops_takeW [((low0.set q0 ⟨48, 2, [.agg [.vs 1 (List.map (PV.int .u8) p0.l), .int .i64 p0.at_]], w0⟩), [])] rfl rfl rfl (congrArg PV.bool c2) (all1 (VRd.ntl (rd_fieldAddr rfl tf_48_0 ts_22 (by decide))) all0) ?_
        refine dops_takeW [((low0.set q0 ⟨48, 2, [.agg [.vs 1 (List.map (PV.int .u8) p0.l), .int .i64 p0.at_]], w0⟩), [])] rfl rfl rfl (congrArg PV.bool c2) (all1 (VRd.ntl (rd_load1 rfl (getO_set hq0) rfl ta_22 rfl)) all0) ?_
        refine dops_takeW [((low0.set q0 ⟨48, 2, [.agg [.vs 1 (List.map (PV.int .u8) p0.l), .int .i64 p0.at_]], w0⟩), [])] rfl rfl rfl (congrArg PV.bool c2) (all1 (VRd.ntl (rd_to (rd_lenV rfl rfl te_22) (congrArg (fun n : Nat => PV.int .i64 (n : Int)) (List.length_map _)))) all0) ?_
        refine dops_takeW [((low0.set q0 ⟨48, 2, [.agg [.vs 1 (List.map (PV.int .u8) p0.l), .int .i64 p0.at_]], w0⟩), [])] rfl rfl rfl (congrArg PV.bool c2) (all1 (VRd.ntl (rd_geq rfl rfl)) all0) ?_
        refine dops_rdW [((low0.set q0 ⟨48, 2, [.agg [.vs 1 (List.map (PV.int .u8) p0.l), .int .i64 p0.at_]], w0⟩), [])] rfl rfl (all1 (VRd.ntl (rd_pickF (congrArg PV.bool c2) rfl)) all0) ?_
        refine dops_nil ?_
        obtain rfl := Option.some.inj hF
        refine onlyE ?_
        exact weak_sub ⟨rfl, rfl, rfl, trivial⟩
    · rintro _ _ _ _ ⟨rfl, hw⟩
      refine ⟨_, _, _, hw, ?_⟩
      refine vwp_cond rfl (fun c3 => ?_) (fun c3 => ?_)
      · have hF := bifT c3 hF
        refine vwp_seq ?_
        refine vwp_region ?_
        refine vops_rd (rd_asI rfl) rfl ?_
        refine vops_nil ?_
        refine vwp_ret ?_
        obtain rfl := Option.some.inj hF
        refine fnR ?_
        exact weak_sub ⟨rfl, trivial⟩
      · have hF := bifF c3 hF
        refine vwp_skip ?_
        refine vwp_seq ?_
        refine vwp_region ?_
        refine vops_rd (rd_mvP rfl) rfl ?_
        refine vops_rd (rd_nilPtr rfl) rfl ?_
        refine vops_rd (rd_fieldAddr rfl tf_48_1 ts_3 (by decide)) rfl ?_
        refine vops_rd (rd_load1 rfl (getO_set hq0) rfl ta_3 rfl) rfl ?_
        refine vops_rd (rd_add rfl rfl rfl) rfl ?_
        refine vops_rd (rd_nilPtr rfl) rfl ?_
        refine vops_rd (rd_fieldAddr rfl tf_48_1 ts_3 (by decide)) rfl ?_
        refine vops_efE (vef_store (p := .int .i64 (IntKind.i64.wrap (p0.at_ + 1))) (e' := .agg [.vs 1 (List.map (PV.int .u8) p0.l), .int .i64 (IntKind.i64.wrap (p0.at_ + 1))]) rfl (getO_set hq0) rfl rfl ts_3 rfl (nt_ne rfl) rfl (Nat.le_of_ble_eq_true rfl) rfl (setO_set hq0 (ltObj_es ⟨(lt_agg ⟨.vs _ _, .int _ _, trivial⟩), trivial⟩))) rfl ?_
        refine vops_nil ?_
        refine vwp_seq ?_
        obtain ⟨x4, h5, hF⟩ := bnd hF
        refine vwp_drawn [[], [0], [0, 1], [0, 1, 2], [], [4], [4, 5], [4, 5, 6], [4, 5, 6, 7], [0, 1, 2, 3, 4, 5, 6, 7, 8], [0, 1, 2, 3, 4, 5, 6, 7, 8, 9], [0, 1, 2, 3, 4, 5, 6, 7, 8, 9, 10], [0, 1, 2, 3, 4, 5, 6, 7, 8, 9, 10, 11]] [false, false, false, false, false, false, false, false, false, false, false, false, false] [((low0.set q0 ⟨48, 2, [.agg [.vs 1 (List.map (PV.int .u8) p0.l), .int .i64 (IntKind.i64.wrap (p0.at_ + 1))]], w0⟩), [])] mixed (by kernel_rfl) rfl (lenAll (all1 len_set2 all0)) rfl ((low0.set q0 ⟨48, 2, [.agg [.vs 1 (List.map (PV.int .u8) p0.l), .int .i64 (IntKind.i64.wrap (p0.at_ + 1))]], w0⟩), []) rfl rfl ?_
        refine dops_rdW [((low0.set q0 ⟨48, 2, [.agg [.vs 1 (List.map (PV.int .u8) p0.l), .int .i64 (IntKind.i64.wrap (p0.at_ + 1))]], w0⟩), [])] rfl rfl (all1 (VRd.ntl (rd_mvP rfl)) all0) ?_
        refine dops_rdW [((low0.set q0 ⟨48, 2, [.agg [.vs 1 (List.map (PV.int .u8) p0.l), .int .i64 (IntKind.i64.wrap (p0.at_ + 1))]], w0⟩), [])] rfl rfl (all1 (VRd.ntl (rd_nilPtr rfl)) all0) ?_
        refine dops_rdW [((low0.set q0 ⟨48, 2, [.agg [.vs 1 (List.map (PV.int .u8) p0.l), .int .i64 (IntKind.i64.wrap (p0.at_ + 1))]], w0⟩), [])] rfl rfl (all1 (VRd.ntl (rd_fieldAddr rfl tf_48_0 ts_22 (by decide))) all0) ?_
        refine dops_rdW [((low0.set q0 ⟨48, 2, [.agg [.vs 1 (List.map (PV.int .u8) p0.l), .int .i64 (IntKind.i64.wrap (p0.at_ + 1))]], w0⟩), [])] rfl rfl (all1 (VRd.ntl (rd_load1 rfl (getO_set hq0) rfl ta_22 rfl)) all0) ?_
        refine dops_rdW [((low0.set q0 ⟨48, 2, [.agg [.vs 1 (List.map (PV.int .u8) p0.l), .int .i64 (IntKind.i64.wrap (p0.at_ + 1))]], w0⟩), [])] rfl rfl (all1 (VRd.ntl (rd_mvP rfl)) all0) ?_
        refine dops_rdW [((low0.set q0 ⟨48, 2, [.agg [.vs 1 (List.map (PV.int .u8) p0.l), .int .i64 (IntKind.i64.wrap (p0.at_ + 1))]], w0⟩), [])] rfl rfl (all1 (VRd.ntl (rd_nilPtr rfl)) all0) ?_
        refine dops_rdW [((low0.set q0 ⟨48, 2, [.agg [.vs 1 (List.map (PV.int .u8) p0.l), .int .i64 (IntKind.i64.wrap (p0.at_ + 1))]], w0⟩), [])] rfl rfl (all1 (VRd.ntl (rd_fieldAddr rfl tf_48_1 ts_3 (by decide))) all0) ?_
        refine dops_rdW [((low0.set q0 ⟨48, 2, [.agg [.vs 1 (List.map (PV.int .u8) p0.l), .int .i64 (IntKind.i64.wrap (p0.at_ + 1))]], w0⟩), [])] rfl rfl (all1 (VRd.ntl (rd_load1 rfl (getO_set hq0) rfl ta_3 rfl)) all0) ?_
        refine dops_rdW [((low0.set q0 ⟨48, 2, [.agg [.vs 1 (List.map (PV.int .u8) p0.l), .int .i64 (IntKind.i64.wrap (p0.at_ + 1))]], w0⟩), [])] rfl rfl (all1 (VRd.ntl (rd_sub rfl rfl rfl)) all0) ?_
        refine dops_rdW [((low0.set q0 ⟨48, 2, [.agg [.vs 1 (List.map (PV.int .u8) p0.l), .int .i64 (IntKind.i64.wrap (p0.at_ + 1))]], w0⟩), [])] rfl rfl (all1 (VRd.ntl (rd_to (rd_ixV rfl rfl h5 te_22 ts_5) (v' := .vptr [.int .u8 x4] 0) rfl)) all0) ?_
        refine dops_rdW [((low0.set q0 ⟨48, 2, [.agg [.vs 1 (List.map (PV.int .u8) p0.l), .int .i64 (IntKind.i64.wrap (p0.at_ + 1))]], w0⟩), [])] rfl rfl (all1 (VRd.ntl (rd_loadV1 rfl ta_5 rfl)) all0) ?_
        refine dops_rdW [((low0.set q0 ⟨48, 2, [.agg [.vs 1 (List.map (PV.int .u8) p0.l), .int .i64 (IntKind.i64.wrap (p0.at_ + 1))]], w0⟩), [])] rfl rfl (all1 (VRd.ntl (rd_conv rfl us_5 ti_3 rfl)) all0) ?_
        refine dops_rdW [((low0.set q0 ⟨48, 2, [.agg [.vs 1 (List.map (PV.int .u8) p0.l), .int .i64 (IntKind.i64.wrap (p0.at_ + 1))]], w0⟩), [])] rfl rfl (all1 (VRd.ntl (rd_asI rfl)) all0) ?_
        refine dops_nil ?_
        refine vwp_seq ?_
        refine vwp_seq ?_
        obtain ⟨o6, ho6, hF⟩ := bnd hF
        refine vwp_monoW (Q' := (fun o6 => OnlyE .normal (fun E' lw lc => Weak E' lw lc [(0, .ptr q0 w0 0 0), (1, .int .i64 p1), (5, .int .i64 (IntKind.i64.wrap x4)), (52, .bool o6)] (low0.set q0 ⟨48, 2, [.agg [.vs 1 (List.map (PV.int .u8) p0.l), .int .i64 (IntKind.i64.wrap (p0.at_ + 1))]], w0⟩) [])) o6) ?_ ?_
        · replace hF := ho6
          rcases Bool.eq_false_or_eq_true (decide (256 < p1)) with c7 | c7
          · have hF := bifT c7 hF
            refine vwp_drawn [[], [0], [0, 1], [0, 1, 2], [0, 1, 2, 3], [0, 1, 2, 3, 4], [0, 1, 2, 3, 4, 5], [0, 1, 2], [0, 1, 2, 7], [0, 1, 2, 7, 8], [0, 1, 2, 7, 8, 9], [0, 1, 2, 7, 8, 9, 10], [0, 1, 2, 3, 4, 5, 6, 7, 8, 9, 10, 11], [0, 1, 2, 3, 4, 5, 6, 7, 8, 9, 10, 11, 12]] [false, false, false, false, false, false, false, false, false, false, false, false, false, false] [((low0.set q0 ⟨48, 2, [.agg [.vs 1 (List.map (PV.int .u8) p0.l), .int .i64 (IntKind.i64.wrap (p0.at_ + 1))]], w0⟩), [])] mixed (by kernel_rfl) rfl (lenAll (all1 len_set2 all0)) rfl ((low0.set q0 ⟨48, 2, [.agg [.vs 1 (List.map (PV.int .u8) p0.l), .int .i64 (IntKind.i64.wrap (p0.at_ + 1))]], w0⟩), []) rfl rfl ?_
            refine dops_rdW [((low0.set q0 ⟨48, 2, [.agg [.vs 1 (List.map (PV.int .u8) p0.l), .int .i64 (IntKind.i64.wrap (p0.at_ + 1))]], w0⟩), [])] rfl rfl (all1 (VRd.ntl (rd_mvI rfl)) all0) ?_
            refine dops_rdW [((low0.set q0 ⟨48, 2, [.agg [.vs 1 (List.map (PV.int .u8) p0.l), .int .i64 (IntKind.i64.wrap (p0.at_ + 1))]], w0⟩), [])] rfl rfl (all1 (VRd.ntl (rd_gtr rfl rfl)) all0) ?_
            refine dops_rdW [((low0.set q0 ⟨48, 2, [.agg [.vs 1 (List.map (PV.int .u8) p0.l), .int .i64 (IntKind.i64.wrap (p0.at_ + 1))]], w0⟩), [])] rfl rfl (all1 (VRd.ntl (rd_mvB rfl)) all0) ?_
            refine dops_takeW [((low0.set q0 ⟨48, 2, [.agg [.vs 1 (List.map (PV.int .u8) p0.l), .int .i64 (IntKind.i64.wrap (p0.at_ + 1))]], w0⟩), [])] rfl rfl rfl (congrArg PV.bool c7) (all1 (VRd.ntl (rd_mvP rfl)) all0) ?_
            refine dops_takeW [((low0.set q0 ⟨48, 2, [.agg [.vs 1 (List.map (PV.int .u8) p0.l), .int .i64 (IntKind.i64.wrap (p0.at_ + 1))]], w0⟩), [])] rfl rfl rfl (congrArg PV.bool c7) (all1 (VRd.ntl (rd_nilPtr rfl)) all0) ?_
            refine dops_takeW [((low0.set q0 ⟨48, 2, [.agg [.vs 1 (List.map (PV.int .u8) p0.l), .int .i64 (IntKind.i64.wrap (p0.at_ + 1))]], w0⟩), [])] rfl rfl rfl (congrArg PV.bool c7) (all1 (VRd.ntl (rd_fieldAddr rfl tf_48_1 ts_3 (by decide))) all0) ?_
            refine dops_takeW [((low0.set q0 ⟨48, 2, [.agg [.vs 1 (List.map (PV.int .u8) p0.l), .int .i64 (IntKind.i64.wrap (p0.at_ + 1))]], w0⟩), [])] rfl rfl rfl (congrArg PV.bool c7) (all1 (VRd.ntl (rd_load1 rfl (getO_set hq0) rfl ta_3 rfl)) all0) ?_
            refine dops_takeW [((low0.set q0 ⟨48, 2, [.agg [.vs 1 (List.map (PV.int .u8) p0.l), .int .i64 (IntKind.i64.wrap (p0.at_ + 1))]], w0⟩), [])] rfl rfl rfl (congrArg PV.bool c7) (all1 (VRd.ntl (rd_mvP rfl)) all0) ?_
            refine dops_takeW [((low0.set q0 ⟨48, 2, [.agg [.vs 1 (List.map (PV.int .u8) p0.l), .int .i64 (IntKind.i64.wrap (p0.at_ + 1))]], w0⟩), [])] rfl rfl rfl (congrArg PV.bool c7) (all1 (VRd.ntl (rd_nilPtr rfl)) all0) ?_
            refine dops_takeW [((low0.set q0 ⟨48, 2, [.agg [.vs 1 (List.map (PV.int .u8) p0.l), .int .i64 (IntKind.i64.wrap (p0.at_ + 1))]], w0⟩), [])] rfl rfl rfl (congrArg PV.bool c7) (all1 (VRd.ntl (rd_fieldAddr rfl tf_48_0 ts_22 (by decide))) all0) ?_
            refine dops_takeW [((low0.set q0 ⟨48, 2, [.agg [.vs 1 (List.map (PV.int .u8) p0.l), .int .i64 (IntKind.i64.wrap (p0.at_ + 1))]], w0⟩), [])] rfl rfl rfl (congrArg PV.bool c7) (all1 (VRd.ntl (rd_load1 rfl (getO_set hq0) rfl ta_22 rfl)) all0) ?_
            refine dops_takeW [((low0.set q0 ⟨48, 2, [.agg [.vs 1 (List.map (PV.int .u8) p0.l), .int .i64 (IntKind.i64.wrap (p0.at_ + 1))]], w0⟩), [])] rfl rfl rfl (congrArg PV.bool c7) (all1 (VRd.ntl (rd_to (rd_lenV rfl rfl te_22) (congrArg (fun n : Nat => PV.int .i64 (n : Int)) (List.length_map _)))) all0) ?_
            refine dops_takeW [((low0.set q0 ⟨48, 2, [.agg [.vs 1 (List.map (PV.int .u8) p0.l), .int .i64 (IntKind.i64.wrap (p0.at_ + 1))]], w0⟩), [])] rfl rfl rfl (congrArg PV.bool c7) (all1 (VRd.ntl (rd_lss rfl rfl)) all0) ?_
            refine dops_rdW [((low0.set q0 ⟨48, 2, [.agg [.vs 1 (List.map (PV.int .u8) p0.l), .int .i64 (IntKind.i64.wrap (p0.at_ + 1))]], w0⟩), [])] rfl rfl (all1 (VRd.ntl (rd_pickT (congrArg PV.bool c7) rfl)) all0) ?_
            refine dops_nil ?_
            obtain rfl := Option.some.inj hF
            refine onlyE ?_
            exact weak_sub ⟨rfl, rfl, rfl, rfl, trivial⟩
          · have hF := bifF c7 hF
            refine vwp_drawn [[], [0], [0, 1], [0, 1, 2], [0, 1, 2, 3], [0, 1, 2, 3, 4], [0, 1, 2, 3, 4, 5], [0, 1, 2], [0, 1, 2, 7], [0, 1, 2, 7, 8], [0, 1, 2, 7, 8, 9], [0, 1, 2, 7, 8, 9, 10], [0, 1, 2, 3, 4, 5, 6, 7, 8, 9, 10, 11], [0, 1, 2, 3, 4, 5, 6, 7, 8, 9, 10, 11, 12]] [false, false, false, false, false, false, false, false, false, false, false, false, false, false] [((low0.set q0 ⟨48, 2, [.agg [.vs 1 (List.map (PV.int .u8) p0.l), .int .i64 (IntKind.i64.wrap (p0.at_ + 1))]], w0⟩), [])] mixed (by kernel_rfl) rfl (lenAll (all1 len_set2 all0)) rfl ((low0.set q0 ⟨48, 2, [.agg [.vs 1 (List.map (PV.int .u8) p0.l), .int .i64 (IntKind.i64.wrap (p0.at_ + 1))]], w0⟩), []) rfl rfl ?_
            refine dops_rdW [((low0.set q0 ⟨48, 2, [.agg [.vs 1 (List.map (PV.int .u8) p0.l), .int .i64 (IntKind.i64.wrap (p0.at_ + 1))]], w0⟩), [])] rfl rfl (all1 (VRd.ntl (rd_mvI rfl)) all0) ?_
            refine dops_rdW [((low0.set q0 ⟨48, 2, [.agg [.vs 1 (List.map (PV.int .u8) p0.l), .int .i64 (IntKind.i64.wrap (p0.at_ + 1))]], w0⟩), [])] rfl rfl (all1 (VRd.ntl (rd_gtr rfl rfl)) all0) ?_
            refine dops_rdW [((low0.set q0 ⟨48, 2, [.agg [.vs 1 (List.map (PV.int .u8) p0.l), .int .i64 (IntKind.i64.wrap (p0.at_ + 1))]], w0⟩), [])] rfl rfl (all1 (VRd.ntl (rd_mvB rfl)) all0) ?_
            refine dops_skip rfl rfl rfl (neF c7) ?_
            refine dops_skip rfl rfl rfl (neF c7) ?_
            refine dops_skip rfl rfl rfl (neF c7) ?_
            refine dops_skip rfl rfl rfl (neF c7) ?_
            refine dops_skip rfl rfl rfl (neF c7) ?_
            refine dops_skip rfl rfl rfl (neF c7) ?_
            refine dops_skip rfl rfl rfl (neF c7) ?_
            refine dops_skip rfl rfl rfl (neF c7) ?_
            refine dops_skip rfl rfl rfl (neF c7) ?_
            refine dops_skip rfl rfl rfl (neF c7) ?_
            refine dops_rdW [((low0.set q0 ⟨48, 2, [.agg [.vs 1 (List.map (PV.int .u8) p0.l), .int .i64 (IntKind.i64.wrap (p0.at_ + 1))]], w0⟩), [])] rfl rfl (all1 (VRd.ntl (rd_pickF (congrArg PV.bool c7) rfl)) all0) ?_
            refine dops_nil ?_
            obtain rfl := Option.some.inj hF
            refine onlyE ?_
            exact weak_sub ⟨rfl, rfl, rfl, rfl, trivial⟩
        · rintro _ _ _ _ ⟨rfl, hw⟩
          refine ⟨_, _, _, hw, ?_⟩
          obtain ⟨o8, ho8, hF⟩ := bnd hF
          refine vwp_monoW (Q' := (fun o8 => OnlyE .normal (fun E' lw lc => Weak E' lw lc [(1, .int .i64 p1), (5, .int .i64 o8.1)] (low0.set q0 ⟨48, 2, [.agg [.vs 1 (List.map (PV.int .u8) p0.l), .int .i64 o8.2]], w0⟩) [])) o8) ?_ ?_
          · replace hF := ho8
            refine vwp_cond rfl (fun c9 => ?_) (fun c9 => ?_)
            · have hF := bifT c9 hF
              refine vwp_seq ?_
              obtain ⟨x10, h11, hF⟩ := bnd hF
              refine vwp_drawn [[], [0], [], [2], [2, 3], [2, 3, 4], [], [6], [6, 7], [6, 7, 8], [2, 3, 4, 5, 6, 7, 8, 9], [2, 3, 4, 5, 6, 7, 8, 9, 10], [2, 3, 4, 5, 6, 7, 8, 9, 10, 11], [0, 1, 2, 3, 4, 5, 6, 7, 8, 9, 10, 11, 12], [0, 1, 2, 3, 4, 5, 6, 7, 8, 9, 10, 11, 12, 13]] [false, false, false, false, false, false, false, false, false, false, false, false, false, false, false] [((low0.set q0 ⟨48, 2, [.agg [.vs 1 (List.map (PV.int .u8) p0.l), .int .i64 (IntKind.i64.wrap (p0.at_ + 1))]], w0⟩), [])] mixed (by kernel_rfl) rfl (lenAll (all1 len_set2 all0)) rfl ((low0.set q0 ⟨48, 2, [.agg [.vs 1 (List.map (PV.int .u8) p0.l), .int .i64 (IntKind.i64.wrap (p0.at_ + 1))]], w0⟩), []) rfl rfl ?_
              refine dops_rdW [((low0.set q0 ⟨48, 2, [.agg [.vs 1 (List.map (PV.int .u8) p0.l), .int .i64 (IntKind.i64.wrap (p0.at_ + 1))]], w0⟩), [])] rfl rfl (all1 (VRd.ntl (rd_mvI rfl)) all0) ?_
              refine dops_rdW [((low0.set q0 ⟨48, 2, [.agg [.vs 1 (List.map (PV.int .u8) p0.l), .int .i64 (IntKind.i64.wrap (p0.at_ + 1))]], w0⟩), [])] rfl rfl (all1 (VRd.ntl (rd_mul rfl rfl rfl)) all0) ?_
              refine dops_rdW [((low0.set q0 ⟨48, 2, [.agg [.vs 1 (List.map (PV.int .u8) p0.l), .int .i64 (IntKind.i64.wrap (p0.at_ + 1))]], w0⟩), [])] rfl rfl (all1 (VRd.ntl (rd_mvP rfl)) all0) ?_
              refine dops_rdW [((low0.set q0 ⟨48, 2, [.agg [.vs 1 (List.map (PV.int .u8) p0.l), .int .i64 (IntKind.i64.wrap (p0.at_ + 1))]], w0⟩), [])] rfl rfl (all1 (VRd.ntl (rd_nilPtr rfl)) all0) ?_
              refine dops_rdW [((low0.set q0 ⟨48, 2, [.agg [.vs 1 (List.map (PV.int .u8) p0.l), .int .i64 (IntKind.i64.wrap (p0.at_ + 1))]], w0⟩), [])] rfl rfl (all1 (VRd.ntl (rd_fieldAddr rfl tf_48_0 ts_22 (by decide))) all0) ?_
              refine dops_rdW [((low0.set q0 ⟨48, 2, [.agg [.vs 1 (List.map (PV.int .u8) p0.l), .int .i64 (IntKind.i64.wrap (p0.at_ + 1))]], w0⟩), [])] rfl rfl (all1 (VRd.ntl (rd_load1 rfl (getO_set hq0) rfl ta_22 rfl)) all0) ?_
              refine dops_rdW [((low0.set q0 ⟨48, 2, [.agg [.vs 1 (List.map (PV.int .u8) p0.l), .int .i64 (IntKind.i64.wrap (p0.at_ + 1))]], w0⟩), [])] rfl rfl (all1 (VRd.ntl (rd_mvP rfl)) all0) ?_
              refine dops_rdW [((low0.set q0 ⟨48, 2, [.agg [.vs 1 (List.map (PV.int .u8) p0.l), .int .i64 (IntKind.i64.wrap (p0.at_ + 1))]], w0⟩), [])] rfl rfl (all1 (VRd.ntl (rd_nilPtr rfl)) all0) ?_
              refine dops_rdW [((low0.set q0 ⟨48, 2, [.agg [.vs 1 (List.map (PV.int .u8) p0.l), .int .i64 (IntKind.i64.wrap (p0.at_ + 1))]], w0⟩), [])] rfl rfl (all1 (VRd.ntl (rd_fieldAddr rfl tf_48_1 ts_3 (by decide))) all0) ?_
              refine dops_rdW [((low0.set q0 ⟨48, 2, [.agg [.vs 1 (List.map (PV.int .u8) p0.l), .int .i64 (IntKind.i64.wrap (p0.at_ + 1))]], w0⟩), [])] rfl rfl (all1 (VRd.ntl (rd_load1 rfl (getO_set hq0) rfl ta_3 rfl)) all0) ?_
              refine dops_rdW [((low0.set q0 ⟨48, 2, [.agg [.vs 1 (List.map (PV.int .u8) p0.l), .int .i64 (IntKind.i64.wrap (p0.at_ + 1))]], w0⟩), [])] rfl rfl (all1 (VRd.ntl (rd_to (rd_ixV rfl rfl h11 te_22 ts_5) (v' := .vptr [.int .u8 x10] 0) rfl)) all0) ?_
              refine dops_rdW [((low0.set q0 ⟨48, 2, [.agg [.vs 1 (List.map (PV.int .u8) p0.l), .int .i64 (IntKind.i64.wrap (p0.at_ + 1))]], w0⟩), [])] rfl rfl (all1 (VRd.ntl (rd_loadV1 rfl ta_5 rfl)) all0) ?_
              refine dops_rdW [((low0.set q0 ⟨48, 2, [.agg [.vs 1 (List.map (PV.int .u8) p0.l), .int .i64 (IntKind.i64.wrap (p0.at_ + 1))]], w0⟩), [])] rfl rfl (all1 (VRd.ntl (rd_conv rfl us_5 ti_3 rfl)) all0) ?_
              refine dops_rdW [((low0.set q0 ⟨48, 2, [.agg [.vs 1 (List.map (PV.int .u8) p0.l), .int .i64 (IntKind.i64.wrap (p0.at_ + 1))]], w0⟩), [])] rfl rfl (all1 (VRd.ntl (rd_add rfl rfl rfl)) all0) ?_
              refine dops_rdW [((low0.set q0 ⟨48, 2, [.agg [.vs 1 (List.map (PV.int .u8) p0.l), .int .i64 (IntKind.i64.wrap (p0.at_ + 1))]], w0⟩), [])] rfl rfl (all1 (VRd.ntl (rd_asI rfl)) all0) ?_
              refine dops_nil ?_
              refine vwp_region ?_
              refine vops_rd (rd_mvP rfl) rfl ?_
              refine vops_rd (rd_nilPtr rfl) rfl ?_
              refine vops_rd (rd_fieldAddr rfl tf_48_1 ts_3 (by decide)) rfl ?_
              refine vops_rd (rd_load1 rfl (getO_set hq0) rfl ta_3 rfl) rfl ?_
              refine vops_rd (rd_add rfl rfl rfl) rfl ?_
              refine vops_rd (rd_nilPtr rfl) rfl ?_
              refine vops_rd (rd_fieldAddr rfl tf_48_1 ts_3 (by decide)) rfl ?_
              refine vops_efE (vef_store (p := .int .i64 (IntKind.i64.wrap ((IntKind.i64.wrap (p0.at_ + 1)) + 1))) (e' := .agg [.vs 1 (List.map (PV.int .u8) p0.l), .int .i64 (IntKind.i64.wrap ((IntKind.i64.wrap (p0.at_ + 1)) + 1))]) rfl (getO_set hq0) rfl rfl ts_3 rfl (nt_ne rfl) rfl (Nat.le_of_ble_eq_true rfl) rfl (setO_set hq0 (ltObj_es ⟨(lt_agg ⟨.vs _ _, .int _ _, trivial⟩), trivial⟩))) rfl ?_
              refine vops_nil ?_
              obtain rfl := Option.some.inj hF
              refine onlyE ?_
              exact weak_sub ⟨rfl, rfl, trivial⟩
            · have hF := bifF c9 hF
              refine vwp_skip ?_
              obtain rfl := Option.some.inj hF
              refine onlyE ?_
              exact weak_sub ⟨rfl, rfl, trivial⟩
          · rintro _ _ _ _ ⟨rfl, hw⟩
            refine ⟨_, _, _, hw, ?_⟩
            refine vwp_seq ?_
            refine vwp_region ?_
            obtain ⟨x12, h13, hF⟩ := bnd hF
            refine vops_rd (rd_mvI rfl) rfl ?_
            refine vops_rd (rd_mvI rfl) rfl ?_
            refine vops_rd (rd_rem rfl rfl (remI_some h13).1 (remI_some h13).2) rfl ?_
            refine vops_rd (rd_asI rfl) rfl ?_
            refine vops_nil ?_
            refine vwp_ret ?_
            obtain rfl := Option.some.inj hF
            refine fnR ?_
            exact weak_sub ⟨rfl, trivial⟩
  · rintro _ _ _ _ ⟨he, hw⟩
    refine ⟨_, _, _, hw, ?_⟩
    exact bodyQ_pure he [.int .i64 r.2] ⟨rfl, trivial⟩ (.int _ _) ⟨rfl, rfl⟩

theorem F_draw_Codes_Next_ok {p0 : T_draw_Codes} {p1 : Int} {r : T_draw_Codes × Int} (hF : F_draw_Codes_Next p0 p1 = some r) {low : List AObj} {q0 w0 : Nat} (hq0 : low[q0]? = some ⟨48, 2, [.agg [.vs 1 (List.map (PV.int .u8) p0.l), .int .i64 p0.at_]], w0⟩) :
    VCalls Try.prog 21 [.ptr q0 w0 0 0, .int .i64 p1] low fun x low' => x = .int .i64 r.2 ∧ low' = low.set q0 ⟨48, 2, [.agg [.vs 1 (List.map (PV.int .u8) r.1.l), .int .i64 r.1.at_]], w0⟩ := by
  obtain ⟨h1, h2⟩ := low_set hq0
  have h := F_draw_Codes_Next_ok0 hF (w0 := w0) h1
  rw [← h2] at h
  exact h

theorem F_draw_Codes_Frame_ok0 {p0 : T_draw_Codes} {r : T_draw_Codes × T_Frame} (hF : F_draw_Codes_Frame p0 = some r) {low0 : List AObj} {q0 w0 : Nat} (hq0 : q0 < low0.length) :
    VCalls Try.prog 11 [.ptr q0 w0 0 0] (low0.set q0 ⟨48, 2, [.agg [.vs 1 (List.map (PV.int .u8) p0.l), .int .i64 p0.at_]], w0⟩) fun x low' => x = .agg [.int .i64 r.2.Address, .int .i64 r.2.Kind, .vs 1 (List.map (PV.int .u8) r.2.Data)] ∧ low' = low0.set q0 ⟨48, 2, [.agg [.vs 1 (List.map (PV.int .u8) r.1.l), .int .i64 r.1.at_]], w0⟩ := by
  refine vcalls_of_body (nt := 34) (rs := [.cell 2 24]) Try.func11 rfl rfl (Nat.le_of_ble_eq_true rfl) rfl ?_
  refine vwp_monoW (Q' := FnE (fun E' lw lc => Weak E' lw lc [(2, .ptr (low0.length + 0) 0 0 0)] (low0.set q0 ⟨48, 2, [.agg [.vs 1 (List.map (PV.int .u8) r.1.l), .int .i64 r.1.at_]], w0⟩) [⟨24, 3, [.agg [.int .i64 r.2.Address, .int .i64 r.2.Kind, .vs 1 (List.map (PV.int .u8) r.2.Data)]], 0⟩])) ?_ ?_
  · unfold F_draw_Codes_Frame at hF
    refine vwp_seq ?_
    refine vwp_region ?_
    refine vops_efE (vef_allocN List.length_set rfl tz_24 rfl rfl (Nat.succ_pos _) rfl) rfl ?_
    refine vops_nil ?_
    refine vwp_seq ?_
    refine vwp_region ?_
    obtain ⟨x1, h2, hF⟩ := bnd hF
    obtain ⟨x3, h4, hF⟩ := bnd hF
    obtain ⟨x5, h6, hF⟩ := bnd hF
    refine vops_rd (rd_mvP rfl) rfl ?_
    refine vops_efE (vef_callL hq0 (o' := ⟨48, 2, [.agg [.vs 1 (List.map (PV.int .u8) x1.1.l), .int .i64 x1.1.at_]], w0⟩) (ltObj_es ⟨(lt_agg ⟨.vs _ _, .int _ _, trivial⟩), trivial⟩) rfl Try.call21 (F_draw_Codes_Next_ok h2 (get_low hq0))) rfl ?_
    refine vops_rd (rd_mvP rfl) rfl ?_
    refine vops_efE (vef_callL hq0 (o' := ⟨48, 2, [.agg [.vs 1 (List.map (PV.int .u8) x3.1.l), .int .i64 x3.1.at_]], w0⟩) (ltObj_es ⟨(lt_agg ⟨.vs _ _, .int _ _, trivial⟩), trivial⟩) rfl Try.call21 (F_draw_Codes_Next_ok h4 (get_low hq0))) rfl ?_
    refine vops_rd (rd_conv rfl us_3 ti_5 rfl) rfl ?_
    refine vops_rd (rd_mvP rfl) rfl ?_
    refine vops_efE (vef_callL hq0 (o' := ⟨48, 2, [.agg [.vs 1 (List.map (PV.int .u8) x5.1.l), .int .i64 x5.1.at_]], w0⟩) (ltObj_es ⟨(lt_agg ⟨.vs _ _, .int _ _, trivial⟩), trivial⟩) rfl Try.call21 (F_draw_Codes_Next_ok h6 (get_low hq0))) rfl ?_
    refine vops_rd (rd_conv rfl us_3 ti_5 rfl) rfl ?_
    refine vops_efE (vef_litF (es := List.map (PV.int .u8) [(IntKind.u8.wrap x3.2), (IntKind.u8.wrap x5.2)]) ⟨rfl, rfl, rfl, rfl, trivial⟩ rfl rfl (nt_all rfl) te_22 ts_5 tz_5 rfl rfl (Nat.succ_pos _) (by decide) (lt_map (fun _ => .int _ _))) rfl ?_
    refine vops_rd (rd_build (vs := [(0, .int .i64 x1.2), (1, .int .i64 1), (2, .vs 1 (List.map (PV.int .u8) [(IntKind.u8.wrap x3.2), (IntKind.u8.wrap x5.2)]))]) (ds := [.int .i64 x1.2, .int .i64 1, .vs 1 (List.map (PV.int .u8) [(IntKind.u8.wrap x3.2), (IntKind.u8.wrap x5.2)])]) tz_24 rfl rfl tp_24 ⟨rfl, rfl, rfl, rfl, rfl, rfl, trivial⟩ (nt_all2 rfl) rfl) rfl ?_
    refine vops_efE (vef_allocN List.length_set rfl tz_24 rfl rfl (Nat.succ_pos _) rfl) rfl ?_
    refine vops_efE (vef_store (p := .agg [.int .i64 x1.2, .int .i64 1, .vs 1 (List.map (PV.int .u8) [(IntKind.u8.wrap x3.2), (IntKind.u8.wrap x5.2)])]) (e' := .agg [.int .i64 x1.2, .int .i64 1, .vs 1 (List.map (PV.int .u8) [(IntKind.u8.wrap x3.2), (IntKind.u8.wrap x5.2)])]) rfl (getO_N List.length_set rfl) rfl rfl ts_24 rfl (nt_ne rfl) rfl (Nat.le_of_ble_eq_true rfl) rfl (setO_N List.length_set rfl)) rfl ?_
    refine vops_nil ?_
    refine vwp_seq ?_
    refine vwp_seq ?_
    refine vwp_region ?_
    obtain ⟨x7, h8, hF⟩ := bnd hF
    refine vops_rd (rd_mvP rfl) rfl ?_
    refine vops_efE (vef_callL hq0 (o' := ⟨48, 2, [.agg [.vs 1 (List.map (PV.int .u8) x7.1.l), .int .i64 x7.1.at_]], w0⟩) (ltObj_es ⟨(lt_agg ⟨.vs _ _, .int _ _, trivial⟩), trivial⟩) rfl Try.call21 (F_draw_Codes_Next_ok h8 (get_low hq0))) rfl ?_
    refine vops_nil ?_
    obtain ⟨o9, ho9, hF⟩ := bnd hF
    refine vwp_monoW (Q' := (fun o9 => OnlyE .normal (fun E' lw lc => Weak E' lw lc [(2, .ptr (low0.length + 0) 0 0 0), (3, .ptr (low0.length + 1) 0 0 0)] (low0.set q0 ⟨48, 2, [.agg [.vs 1 (List.map (PV.int .u8) o9.2.l), .int .i64 o9.2.at_]], w0⟩) [⟨24, 3, [.agg [.int .i64 0, .int .i64 0, .nils]], 0⟩, ⟨24, 3, [.agg [.int .i64 o9.1.Address, .int .i64 o9.1.Kind, .vs 1 (List.map (PV.int .u8) o9.1.Data)]], 0⟩])) o9) ?_ ?_
    · replace hF := ho9
      refine vwp_block ?_
      refine vwp_seq ?_
      refine vwp_region ?_
      refine vops_rd (rd_eql rfl rfl) rfl ?_
      refine vops_rd (rd_asB rfl) rfl ?_
      refine vops_nil ?_
      refine vwp_cond rfl (fun c10 => ?_) (fun c10 => ?_)
      · have hF := bifT c10 hF
        refine vwp_region ?_
        refine vops_rd (rd_fieldAddr rfl tf_24_1 ts_3 (by decide)) rfl ?_
        refine vops_efE (vef_store (p := .int .i64 2) (e' := .agg [.int .i64 x1.2, .int .i64 2, .vs 1 (List.map (PV.int .u8) [(IntKind.u8.wrap x3.2), (IntKind.u8.wrap x5.2)])]) rfl (getO_N List.length_set rfl) rfl rfl ts_3 rfl (nt_ne rfl) rfl (Nat.le_of_ble_eq_true rfl) rfl (setO_N List.length_set rfl)) rfl ?_
        refine vops_rd (rd_fieldAddr rfl tf_24_2 ts_22 (by decide)) rfl ?_
        refine vops_efE (vef_store (p := .nils) (e' := .agg [.int .i64 x1.2, .int .i64 2, .nils]) rfl (getO_N List.length_set rfl) rfl rfl ts_22 rfl (nt_ne rfl) rfl (Nat.le_of_ble_eq_true rfl) rfl (setO_N List.length_set rfl)) rfl ?_
        refine vops_nil ?_
        obtain rfl := Option.some.inj hF
        refine onlyE ?_
        refine Weak.trans (weak_conv (E' := [(2, .ptr (low0.length + 0) 0 0 0), (3, .ptr (low0.length + 1) 0 0 0)]) (loc1 := [⟨24, 3, [.agg [.int .i64 0, .int .i64 0, .nils]], 0⟩, ⟨24, 3, [.agg [.int .i64 x1.2, .int .i64 2, .vs 1 (List.map (PV.int .u8) ([] : List Int))]], 0⟩]) ⟨0, 0, [], 0⟩ ⟨cv_same rfl, cv_same rfl, trivial⟩ ⟨.refl _, cvo_agg ⟨cv_same rfl, cv_same rfl, cv_nil rfl rfl, trivial⟩, trivial⟩) ?_
        exact weak_sub ⟨rfl, rfl, trivial⟩
      · have hF := bifF c10 hF
        refine vwp_seq ?_
        refine vwp_region ?_
        refine vops_rd (rd_eql rfl rfl) rfl ?_
        refine vops_rd (rd_asB rfl) rfl ?_
        refine vops_nil ?_
        refine vwp_cond rfl (fun c11 => ?_) (fun c11 => ?_)
        · have hF := bifT c11 hF
          refine vwp_region ?_
          obtain ⟨x12, h13, hF⟩ := bnd hF
          refine vops_rd (rd_mvP rfl) rfl ?_
          refine vops_efE (vef_callL hq0 (o' := ⟨48, 2, [.agg [.vs 1 (List.map (PV.int .u8) x12.1.l), .int .i64 x12.1.at_]], w0⟩) (ltObj_es ⟨(lt_agg ⟨.vs _ _, .int _ _, trivial⟩), trivial⟩) rfl Try.call21 (F_draw_Codes_Next_ok h13 (get_low hq0))) rfl ?_
          refine vops_rd (rd_fieldAddr rfl tf_24_1 ts_3 (by decide)) rfl ?_
          refine vops_efE (vef_store (p := .int .i64 x12.2) (e' := .agg [.int .i64 x1.2, .int .i64 x12.2, .vs 1 (List.map (PV.int .u8) [(IntKind.u8.wrap x3.2), (IntKind.u8.wrap x5.2)])]) rfl (getO_N List.length_set rfl) rfl rfl ts_3 rfl (nt_ne rfl) rfl (Nat.le_of_ble_eq_true rfl) rfl (setO_N List.length_set rfl)) rfl ?_
          refine vops_nil ?_
          obtain rfl := Option.some.inj hF
          refine onlyE ?_
          exact weak_sub ⟨rfl, rfl, trivial⟩
        · have hF := bifF c11 hF
          refine vwp_seq ?_
          refine vwp_region ?_
          refine vops_rd (rd_eql rfl rfl) rfl ?_
          refine vops_rd (rd_asB rfl) rfl ?_
          refine vops_nil ?_
          refine vwp_cond rfl (fun c14 => ?_) (fun c14 => ?_)
          · have hF := bifT c14 hF
            obtain ⟨x15, h16, hF⟩ := bnd hF
            obtain ⟨x17, h18, hF⟩ := bnd hF
            refine vwp_drawn [[], [0], [], [2], [0, 1, 2, 3], [0, 1, 2, 3, 4], [0, 1, 2, 3, 4, 5]] [false, false, false, true, false, false, true] [((low0.set q0 ⟨48, 2, [.agg [.vs 1 (List.map (PV.int .u8) x7.1.l), .int .i64 x7.1.at_]], w0⟩), [⟨24, 3, [.agg [.int .i64 0, .int .i64 0, .nils]], 0⟩, ⟨24, 3, [.agg [.int .i64 x1.2, .int .i64 1, .vs 1 (List.map (PV.int .u8) [(IntKind.u8.wrap x3.2), (IntKind.u8.wrap x5.2)])]], 0⟩]), ((low0.set q0 ⟨48, 2, [.agg [.vs 1 (List.map (PV.int .u8) x15.1.l), .int .i64 x15.1.at_]], w0⟩), [⟨24, 3, [.agg [.int .i64 0, .int .i64 0, .nils]], 0⟩, ⟨24, 3, [.agg [.int .i64 x1.2, .int .i64 1, .vs 1 (List.map (PV.int .u8) [(IntKind.u8.wrap x3.2), (IntKind.u8.wrap x5.2)])]], 0⟩]), ((low0.set q0 ⟨48, 2, [.agg [.vs 1 (List.map (PV.int .u8) x15.1.l), .int .i64 x15.1.at_]], w0⟩), [⟨24, 3, [.agg [.int .i64 0, .int .i64 0, .nils]], 0⟩, ⟨24, 3, [.agg [.int .i64 x1.2, .int .i64 1, .vs 1 (List.map (PV.int .u8) x17)]], 0⟩])] mixed (by kernel_rfl) rfl (lenAll (all1 len_set2 (all1 len_set2 (all1 len_set2 all0)))) rfl ((low0.set q0 ⟨48, 2, [.agg [.vs 1 (List.map (PV.int .u8) x15.1.l), .int .i64 x15.1.at_]], w0⟩), [⟨24, 3, [.agg [.int .i64 0, .int .i64 0, .nils]], 0⟩, ⟨24, 3, [.agg [.int .i64 x1.2, .int .i64 1, .vs 1 (List.map (PV.int .u8) x17)]], 0⟩]) rfl rfl ?_
            refine dops_rdW [((low0.set q0 ⟨48, 2, [.agg [.vs 1 (List.map (PV.int .u8) x7.1.l), .int .i64 x7.1.at_]], w0⟩), [⟨24, 3, [.agg [.int .i64 0, .int .i64 0, .nils]], 0⟩, ⟨24, 3, [.agg [.int .i64 x1.2, .int .i64 1, .vs 1 (List.map (PV.int .u8) [(IntKind.u8.wrap x3.2), (IntKind.u8.wrap x5.2)])]], 0⟩]), ((low0.set q0 ⟨48, 2, [.agg [.vs 1 (List.map (PV.int .u8) x15.1.l), .int .i64 x15.1.at_]], w0⟩), [⟨24, 3, [.agg [.int .i64 0, .int .i64 0, .nils]], 0⟩, ⟨24, 3, [.agg [.int .i64 x1.2, .int .i64 1, .vs 1 (List.map (PV.int .u8) [(IntKind.u8.wrap x3.2), (IntKind.u8.wrap x5.2)])]], 0⟩])] rfl rfl (all1 (VRd.ntl (rd_fieldAddr rfl tf_24_2 ts_22 (by decide))) (all1 (VRd.ntl (rd_fieldAddr rfl tf_24_2 ts_22 (by decide))) all0)) ?_
            refine dops_rdW [((low0.set q0 ⟨48, 2, [.agg [.vs 1 (List.map (PV.int .u8) x7.1.l), .int .i64 x7.1.at_]], w0⟩), [⟨24, 3, [.agg [.int .i64 0, .int .i64 0, .nils]], 0⟩, ⟨24, 3, [.agg [.int .i64 x1.2, .int .i64 1, .vs 1 (List.map (PV.int .u8) [(IntKind.u8.wrap x3.2), (IntKind.u8.wrap x5.2)])]], 0⟩]), ((low0.set q0 ⟨48, 2, [.agg [.vs 1 (List.map (PV.int .u8) x15.1.l), .int .i64 x15.1.at_]], w0⟩), [⟨24, 3, [.agg [.int .i64 0, .int .i64 0, .nils]], 0⟩, ⟨24, 3, [.agg [.int .i64 x1.2, .int .i64 1, .vs 1 (List.map (PV.int .u8) [(IntKind.u8.wrap x3.2), (IntKind.u8.wrap x5.2)])]], 0⟩])] rfl rfl (all1 (VRd.ntl (rd_load1 rfl (getO_N List.length_set rfl) rfl ta_22 rfl)) (all1 (VRd.ntl (rd_load1 rfl (getO_N List.length_set rfl) rfl ta_22 rfl)) all0)) ?_
            refine dops_rdW [((low0.set q0 ⟨48, 2, [.agg [.vs 1 (List.map (PV.int .u8) x7.1.l), .int .i64 x7.1.at_]], w0⟩), [⟨24, 3, [.agg [.int .i64 0, .int .i64 0, .nils]], 0⟩, ⟨24, 3, [.agg [.int .i64 x1.2, .int .i64 1, .vs 1 (List.map (PV.int .u8) [(IntKind.u8.wrap x3.2), (IntKind.u8.wrap x5.2)])]], 0⟩])] rfl rfl (all1 (VRd.ntl (rd_mvP rfl)) all0) ?_
            refine dops_ef (M := ((low0.set q0 ⟨48, 2, [.agg [.vs 1 (List.map (PV.int .u8) x7.1.l), .int .i64 x7.1.at_]], w0⟩), [⟨24, 3, [.agg [.int .i64 0, .int .i64 0, .nils]], 0⟩, ⟨24, 3, [.agg [.int .i64 x1.2, .int .i64 1, .vs 1 (List.map (PV.int .u8) [(IntKind.u8.wrap x3.2), (IntKind.u8.wrap x5.2)])]], 0⟩])) (M' := ((low0.set q0 ⟨48, 2, [.agg [.vs 1 (List.map (PV.int .u8) x15.1.l), .int .i64 x15.1.at_]], w0⟩), [⟨24, 3, [.agg [.int .i64 0, .int .i64 0, .nils]], 0⟩, ⟨24, 3, [.agg [.int .i64 x1.2, .int .i64 1, .vs 1 (List.map (PV.int .u8) [(IntKind.u8.wrap x3.2), (IntKind.u8.wrap x5.2)])]], 0⟩])) rfl rfl rfl (vef_callL hq0 (o' := ⟨48, 2, [.agg [.vs 1 (List.map (PV.int .u8) x15.1.l), .int .i64 x15.1.at_]], w0⟩) (ltObj_es ⟨(lt_agg ⟨.vs _ _, .int _ _, trivial⟩), trivial⟩) rfl Try.call21 (F_draw_Codes_Next_ok h16 (get_low hq0))) ?_
            refine dops_rdW [((low0.set q0 ⟨48, 2, [.agg [.vs 1 (List.map (PV.int .u8) x15.1.l), .int .i64 x15.1.at_]], w0⟩), [⟨24, 3, [.agg [.int .i64 0, .int .i64 0, .nils]], 0⟩, ⟨24, 3, [.agg [.int .i64 x1.2, .int .i64 1, .vs 1 (List.map (PV.int .u8) [(IntKind.u8.wrap x3.2), (IntKind.u8.wrap x5.2)])]], 0⟩])] rfl rfl (all1 (VRd.ntl (rd_slV rfl te_22 ts_5 rfl ⟨_, rfl⟩ h18)) all0) ?_
            refine dops_rdW [((low0.set q0 ⟨48, 2, [.agg [.vs 1 (List.map (PV.int .u8) x15.1.l), .int .i64 x15.1.at_]], w0⟩), [⟨24, 3, [.agg [.int .i64 0, .int .i64 0, .nils]], 0⟩, ⟨24, 3, [.agg [.int .i64 x1.2, .int .i64 1, .vs 1 (List.map (PV.int .u8) [(IntKind.u8.wrap x3.2), (IntKind.u8.wrap x5.2)])]], 0⟩])] rfl rfl (all1 (VRd.ntl (rd_fieldAddr rfl tf_24_2 ts_22 (by decide))) all0) ?_
            refine dops_ef (M := ((low0.set q0 ⟨48, 2, [.agg [.vs 1 (List.map (PV.int .u8) x15.1.l), .int .i64 x15.1.at_]], w0⟩), [⟨24, 3, [.agg [.int .i64 0, .int .i64 0, .nils]], 0⟩, ⟨24, 3, [.agg [.int .i64 x1.2, .int .i64 1, .vs 1 (List.map (PV.int .u8) [(IntKind.u8.wrap x3.2), (IntKind.u8.wrap x5.2)])]], 0⟩])) (M' := ((low0.set q0 ⟨48, 2, [.agg [.vs 1 (List.map (PV.int .u8) x15.1.l), .int .i64 x15.1.at_]], w0⟩), [⟨24, 3, [.agg [.int .i64 0, .int .i64 0, .nils]], 0⟩, ⟨24, 3, [.agg [.int .i64 x1.2, .int .i64 1, .vs 1 (List.map (PV.int .u8) x17)]], 0⟩])) rfl rfl rfl (vef_store (p := .vs 1 (List.map (PV.int .u8) x17)) (e' := .agg [.int .i64 x1.2, .int .i64 1, .vs 1 (List.map (PV.int .u8) x17)]) rfl (getO_N List.length_set rfl) rfl rfl ts_22 rfl (nt_ne rfl) rfl (Nat.le_of_ble_eq_true rfl) rfl (setO_N List.length_set rfl)) ?_
            refine dops_nil ?_
            obtain rfl := Option.some.inj hF
            refine onlyE ?_
            exact weak_sub ⟨rfl, rfl, trivial⟩
          · have hF := bifF c14 hF
            refine vwp_skip ?_
            obtain rfl := Option.some.inj hF
            refine onlyE ?_
            exact weak_sub ⟨rfl, rfl, trivial⟩
    · rintro _ _ _ _ ⟨rfl, hw⟩
      refine ⟨_, _, _, hw, ?_⟩
      refine vwp_seq ?_
      refine vwp_region ?_
      refine vops_rd (rd_loadN (ds := [.int .i64 o9.1.Address, .int .i64 o9.1.Kind, .vs 1 (List.map (PV.int .u8) o9.1.Data)]) rfl (getO_N List.length_set rfl) rfl ta_24 ts_24 rfl rfl rfl) rfl ?_
      refine vops_efE (vef_store (p := .agg [.int .i64 o9.1.Address, .int .i64 o9.1.Kind, .vs 1 (List.map (PV.int .u8) o9.1.Data)]) (e' := .agg [.int .i64 o9.1.Address, .int .i64 o9.1.Kind, .vs 1 (List.map (PV.int .u8) o9.1.Data)]) rfl (getO_N List.length_set rfl) rfl rfl ts_24 rfl (nt_ne rfl) rfl (Nat.le_of_ble_eq_true rfl) rfl (setO_N List.length_set rfl)) rfl ?_
      refine vops_nil ?_
      refine vwp_ret ?_
      obtain rfl := Option.some.inj hF
      refine fnR ?_
      exact weak_pick List.length_set [(0, 0)] (by decide) ⟨rn_ptr 0 0 rfl rfl, trivial⟩ ⟨⟨_, rfl, rfl, .same _ _ _ _ (ltObj_es ⟨(lt_agg ⟨.int _ _, .int _ _, .vs _ _, trivial⟩), trivial⟩)⟩, trivial⟩
  · rintro _ _ _ _ ⟨he, hw⟩
    refine ⟨_, _, _, hw, ?_⟩
    exact bodyQ_pure he [.agg [.int .i64 r.2.Address, .int .i64 r.2.Kind, .vs 1 (List.map (PV.int .u8) r.2.Data)]] ⟨rd_loadN rfl (getO_N List.length_set rfl) rfl ta_24 ts_24 rfl rfl rfl, trivial⟩ ((lt_agg ⟨.int _ _, .int _ _, .vs _ _, trivial⟩)) ⟨rfl, rfl⟩

theorem F_draw_Codes_Frame_ok {p0 : T_draw_Codes} {r : T_draw_Codes × T_Frame} (hF : F_draw_Codes_Frame p0 = some r) {low : List AObj} {q0 w0 : Nat} (hq0 : low[q0]? = some ⟨48, 2, [.agg [.vs 1 (List.map (PV.int .u8) p0.l), .int .i64 p0.at_]], w0⟩) :
    VCalls Try.prog 11 [.ptr q0 w0 0 0] low fun x low' => x = .agg [.int .i64 r.2.Address, .int .i64 r.2.Kind, .vs 1 (List.map (PV.int .u8) r.2.Data)] ∧ low' = low.set q0 ⟨48, 2, [.agg [.vs 1 (List.map (PV.int .u8) r.1.l), .int .i64 r.1.at_]], w0⟩ := by
  obtain ⟨h1, h2⟩ := low_set hq0
  have h := F_draw_Codes_Frame_ok0 hF (w0 := w0) h1
  rw [← h2] at h
  exact h

theorem F_ref04_Check_ok {p0 : List Int} {r : Int} (hF : F_ref04_Check p0 = some r) (low : List AObj) :
    VCalls Try.prog 15 [.vs 1 (List.map (PV.int .u8) p0)] low fun x low' => x = .int .i64 r ∧ low' = low := by
  refine vcalls_of_body (nt := 37) (rs := [.tmp 2]) Try.func15 rfl rfl (Nat.le_of_ble_eq_true rfl) rfl ?_
  refine vwp_monoW (Q' := FnE (fun E' lw lc => Weak E' lw lc [(2, .int .i64 r)] low [])) ?_ ?_
  · unfold F_ref04_Check at hF
    refine vwp_seq ?_
    refine vwp_region ?_
    refine vops_rd (rd_asI rfl) rfl ?_
    refine vops_nil ?_
    refine vwp_seq ?_
    refine vwp_region ?_
    refine vops_rd (rd_asI rfl) rfl ?_
    refine vops_nil ?_
    refine vwp_seq ?_
    refine vwp_seq ?_
    refine vwp_region ?_
    refine vops_rd (rd_asI rfl) rfl ?_
    refine vops_nil ?_
    refine vwp_block ?_
    obtain ⟨o2, ho2, hF⟩ := bnd hF
    refine vwp_monoW (vwp_loopC (F_ref04_Check_L1 p0) (fun s1 E' lw lc => Weak E' lw lc [(0, .vs 1 (List.map (PV.int .u8) p0)), (3, .int .i64 s1.1), (4, .int .i64 s1.2)] low []) (fun o2 => OnlyE (.exit 0) (fun E' lw lc => Weak E' lw lc [(3, .int .i64 o2)] low [])) ho2 ?_ (by rintro _ _ _ _ ⟨h, _⟩ <;> cases h) ?_) ?_
    · exact weak_sub ⟨rfl, rfl, rfl, trivial⟩
    · rintro s1 os1 _ _ _ hF hw
      unfold F_ref04_Check_L1 at hF
      refine vwp_weak hw ?_
      refine vwp_seq ?_
      refine vwp_seq ?_
      refine vwp_region ?_
      refine vops_rd (rd_mvI rfl) rfl ?_
      refine vops_rd (rd_mvV rfl) rfl ?_
      refine vops_rd (rd_to (rd_lenV rfl rfl te_22) (congrArg (fun n : Nat => PV.int .i64 (n : Int)) (List.length_map _))) rfl ?_
      refine vops_rd (rd_lss rfl rfl) rfl ?_
      refine vops_nil ?_
      refine vwp_cond rfl (fun c3 => ?_) (fun c3 => ?_)
      · have hF := bifT c3 hF
        refine vwp_skip ?_
        refine vwp_seq ?_
        refine vwp_block ?_
        refine vwp_seq ?_
        refine vwp_region ?_
        refine vops_rd (rd_asI rfl) rfl ?_
        refine vops_nil ?_
        refine vwp_block ?_
        obtain ⟨o5, ho5, hF⟩ := bnd hF
        refine vwp_monoW (vwp_loopC (F_ref04_Check_L2 p0 s1) (fun s4 E' lw lc => Weak E' lw lc [(0, .vs 1 (List.map (PV.int .u8) p0)), (3, .int .i64 s4.1), (4, .int .i64 s1.2), (5, .int .i64 s4.2)] low []) (fun o5 => OnlyE (.exit 2) (fun E' lw lc => Weak E' lw lc [(0, .vs 1 (List.map (PV.int .u8) p0)), (3, .int .i64 o5), (4, .int .i64 s1.2)] low [])) ho5 ?_ (by rintro _ _ _ _ ⟨h, _⟩ <;> cases h) ?_) ?_
        · exact weak_sub ⟨rfl, rfl, rfl, rfl, trivial⟩
        · rintro s4 os4 _ _ _ hF hw
          unfold F_ref04_Check_L2 at hF
          refine vwp_weak hw ?_
          refine vwp_seq ?_
          refine vwp_seq ?_
          refine vwp_region ?_
          refine vops_rd (rd_mvI rfl) rfl ?_
          refine vops_rd (rd_geq rfl rfl) rfl ?_
          refine vops_nil ?_
          refine vwp_cond rfl (fun c6 => ?_) (fun c6 => ?_)
          · have hF := bifT c6 hF
            refine vwp_skip ?_
            refine vwp_seq ?_
            obtain ⟨o7, ho7, hF⟩ := bnd hF
            refine vwp_monoW (Q' := (fun o7 => OnlyE .normal (fun E' lw lc => Weak E' lw lc [(0, .vs 1 (List.map (PV.int .u8) p0)), (3, .int .i64 o7), (4, .int .i64 s1.2), (5, .int .i64 s4.2)] low [])) o7) ?_ ?_
            · replace hF := ho7
              refine vwp_block ?_
              refine vwp_seq ?_
              refine vwp_region ?_
              refine vops_rd (rd_mvI rfl) rfl ?_
              refine vops_rd (rd_shrC (c := 32768) rfl rfl (by decide) rfl (by decide)) rfl ?_
              refine vops_rd (rd_and rfl rfl rfl) rfl ?_
              refine vops_rd (rd_asI rfl) rfl ?_
              refine vops_nil ?_
              refine vwp_seq ?_
              refine vwp_region ?_
              refine vops_rd (rd_mvI rfl) rfl ?_
              refine vops_rd (rd_shlC (c := 2) rfl rfl (by decide) rfl rfl) rfl ?_
              refine vops_rd (rd_and rfl rfl rfl) rfl ?_
              refine vops_rd (rd_asI rfl) rfl ?_
              refine vops_nil ?_
              refine vwp_seq ?_
              refine vwp_region ?_
              obtain ⟨x8, h9, hF⟩ := bnd hF
              obtain ⟨x10, h11, hF⟩ := bnd hF
              refine vops_rd (rd_mvI rfl) rfl ?_
              refine vops_rd (rd_mvV rfl) rfl ?_
              refine vops_rd (rd_mvI rfl) rfl ?_
              refine vops_rd (rd_to (rd_ixV rfl rfl h9 te_22 ts_5) (v' := .vptr [.int .u8 x8] 0) rfl) rfl ?_
              refine vops_rd (rd_loadV1 rfl ta_5 rfl) rfl ?_
              refine vops_rd (rd_mvI rfl) rfl ?_
              refine vops_rd (rd_conv rfl us_3 ti_49 rfl) rfl ?_
              refine vops_rd (rd_shr rfl rfl (shrI_some h11).1 (shrI_some h11).2) rfl ?_
              refine vops_rd (rd_and rfl rfl rfl) rfl ?_
              refine vops_rd (rd_conv rfl us_5 ti_3 rfl) rfl ?_
              refine vops_rd (rd_neq rfl rfl) rfl ?_
              refine vops_nil ?_
              refine vwp_cond rfl (fun c12 => ?_) (fun c12 => ?_)
              · have hF := bifT c12 hF
                refine vwp_region ?_
                refine vops_rd (rd_mvI rfl) rfl ?_
                refine vops_rd (rd_xor rfl rfl rfl) rfl ?_
                refine vops_rd (rd_asI rfl) rfl ?_
                refine vops_nil ?_
                obtain rfl := Option.some.inj hF
                refine onlyE ?_
                exact weak_sub ⟨rfl, rfl, rfl, rfl, trivial⟩
              · have hF := bifF c12 hF
                refine vwp_skip ?_
                obtain rfl := Option.some.inj hF
                refine onlyE ?_
                exact weak_sub ⟨rfl, rfl, rfl, rfl, trivial⟩
            · rintro _ _ _ _ ⟨rfl, hw⟩
              refine ⟨_, _, _, hw, ?_⟩
              refine vwp_region ?_
              refine vops_rd (rd_mvI rfl) rfl ?_
              refine vops_rd (rd_sub rfl rfl rfl) rfl ?_
              refine vops_rd (rd_asI rfl) rfl ?_
              refine vops_nil ?_
              obtain rfl := Option.some.inj hF
              refine onlyE ?_
              exact weak_sub ⟨rfl, rfl, rfl, rfl, trivial⟩
          · have hF := bifF c6 hF
            refine vwp_exit ?_
            obtain rfl := Option.some.inj hF
            refine onlyE ?_
            exact weak_sub ⟨rfl, rfl, rfl, trivial⟩
        · rintro _ _ _ _ ⟨rfl, hw⟩
          refine ⟨_, _, _, hw, ?_⟩
          refine vwp_region ?_
          refine vops_rd (rd_mvI rfl) rfl ?_
          refine vops_rd (rd_add rfl rfl rfl) rfl ?_
          refine vops_rd (rd_asI rfl) rfl ?_
          refine vops_nil ?_
          obtain rfl := Option.some.inj hF
          refine onlyE ?_
          exact weak_sub ⟨rfl, rfl, rfl, trivial⟩
      · have hF := bifF c3 hF
        refine vwp_exit ?_
        obtain rfl := Option.some.inj hF
        refine onlyE ?_
        exact weak_sub ⟨rfl, trivial⟩
    · rintro _ _ _ _ ⟨rfl, hw⟩
      refine ⟨_, _, _, hw, ?_⟩
      refine vwp_seq ?_
      refine vwp_region ?_
      refine vops_rd (rd_mvI rfl) rfl ?_
      refine vops_rd (rd_asI rfl) rfl ?_
      refine vops_nil ?_
      refine vwp_ret ?_
      obtain rfl := Option.some.inj hF
      refine fnR ?_
      exact weak_sub ⟨rfl, trivial⟩
  · rintro _ _ _ _ ⟨he, hw⟩
    refine ⟨_, _, _, hw, ?_⟩
    exact bodyQ_pure he [.int .i64 r] ⟨rfl, trivial⟩ (.int _ _) ⟨rfl, rfl⟩

theorem F_ref04_Write_ok {p0 : T_Frame} {r : List Int × Int} (hF : F_ref04_Write p0 = some r) (low : List AObj) {n : Nat} (hn : low.length = n) :
    VCalls Try.prog 13 [.agg [.int .i64 p0.Address, .int .i64 p0.Kind, .vs 1 (List.map (PV.int .u8) p0.Data)]] low fun x low' => x = .tup [.sl (n + 0) 0 0 (r.1).length, .int .i64 r.2] ∧ low' = low ++ [⟨5, 1, List.map (PV.int .u8) r.1, 0⟩] := by
  refine vcalls_of_body (nt := 53) (rs := [.tmp 2, .tmp 3]) Try.func13 rfl rfl (Nat.le_of_ble_eq_true rfl) rfl ?_
  refine vwp_monoW (Q' := FnE (fun E' lw lc => Weak E' lw lc [(2, .sl (n + 0) 0 0 (r.1).length), (3, .int .i64 r.2)] low [⟨5, 1, List.map (PV.int .u8) r.1, 0⟩])) ?_ ?_
  · unfold F_ref04_Write at hF
    refine vwp_seq ?_
    refine vwp_region ?_
    refine vops_efE (vef_boxN hn rfl (v := .agg [.int .i64 p0.Address, .int .i64 p0.Kind, .vs 1 (List.map (PV.int .u8) p0.Data)]) rfl rfl (Nat.succ_pos _) rfl rfl) rfl ?_
    refine vops_efE (vef_nilsN hn rfl 5 1 (Nat.succ_pos _) (rd_asN rfl)) rfl ?_
    refine vops_rd (rd_asI rfl) rfl ?_
    refine vops_nil ?_
    refine vwp_seq ?_
    refine vwp_seq ?_
    obtain ⟨o1, ho1, hF⟩ := bnd hF
    refine vwp_monoW (Q' := (fun o1 => OnlyE .normal (fun E' lw lc => Weak E' lw lc [(1, .ptr (n + 0) 0 0 0), (23, .bool o1)] low [⟨24, 3, [.agg [.int .i64 p0.Address, .int .i64 p0.Kind, .vs 1 (List.map (PV.int .u8) p0.Data)]], 0⟩])) o1) ?_ ?_
    · replace hF := ho1
      refine vwp_region ?_
      rcases Bool.eq_false_or_eq_true (decide (p0.Address < 0)) with c2 | c2
      · have hF := bifT c2 hF
        refine vops_rd (rd_fieldAddr rfl tf_24_0 ts_3 (by decide)) rfl ?_
        refine vops_rd (rd_load1 rfl (getO_N hn rfl) rfl ta_3 rfl) rfl ?_
        refine vops_rd (rd_lss rfl rfl) rfl ?_
        refine vops_rd (rd_mvB rfl) rfl ?_
        refine vops_skip rfl rfl (neT c2) rfl ?_
        refine vops_skip rfl rfl (neT c2) rfl ?_
        refine vops_skip rfl rfl (neT c2) rfl ?_
        refine vops_rd (rd_pickT (congrArg PV.bool c2) rfl) rfl ?_
        refine vops_rd (rd_mvB rfl) rfl ?_
        refine vops_skip rfl rfl (by decide) rfl ?_
        refine vops_skip rfl rfl (by decide) rfl ?_
        refine vops_skip rfl rfl (by decide) rfl ?_
        refine vops_rd (rd_pickT rfl rfl) rfl ?_
        refine vops_rd (rd_mvB rfl) rfl ?_
        refine vops_skip rfl rfl (by decide) rfl ?_
        refine vops_skip rfl rfl (by decide) rfl ?_
        refine vops_skip rfl rfl (by decide) rfl ?_
        refine vops_rd (rd_pickT rfl rfl) rfl ?_
        refine vops_nil ?_
        obtain rfl := Option.some.inj hF
        refine onlyE ?_
        exact weak_pick hn [(0, 0)] (by decide) ⟨rn_ptr 0 0 rfl rfl, rn_low rfl (.bool _), trivial⟩ ⟨⟨_, rfl, rfl, .same _ _ _ _ (ltObj_es ⟨(lt_agg ⟨.int _ _, .int _ _, .vs _ _, trivial⟩), trivial⟩)⟩, trivial⟩
      · have hF := bifF c2 hF
        rcases Bool.eq_false_or_eq_true (decide (255 < p0.Address)) with c3 | c3
        · have hF := bifT c3 hF
          refine vops_rd (rd_fieldAddr rfl tf_24_0 ts_3 (by decide)) rfl ?_
          refine vops_rd (rd_load1 rfl (getO_N hn rfl) rfl ta_3 rfl) rfl ?_
          refine vops_rd (rd_lss rfl rfl) rfl ?_
          refine vops_rd (rd_mvB rfl) rfl ?_
          refine vops_take rfl (congrArg PV.bool c2) ?_
          refine vops_rd (rd_fieldAddr rfl tf_24_0 ts_3 (by decide)) rfl ?_
          refine vops_take rfl (congrArg PV.bool c2) ?_
          refine vops_rd (rd_load1 rfl (getO_N hn rfl) rfl ta_3 rfl) rfl ?_
          refine vops_take rfl (congrArg PV.bool c2) ?_
          refine vops_rd (rd_gtr rfl rfl) rfl ?_
          refine vops_rd (rd_pickF (congrArg PV.bool c2) rfl) rfl ?_
          refine vops_rd (rd_mvB rfl) rfl ?_
          refine vops_skip rfl rfl (neT c3) rfl ?_
          refine vops_skip rfl rfl (neT c3) rfl ?_
          refine vops_skip rfl rfl (neT c3) rfl ?_
          refine vops_rd (rd_pickT (congrArg PV.bool c3) rfl) rfl ?_
          refine vops_rd (rd_mvB rfl) rfl ?_
          refine vops_skip rfl rfl (by decide) rfl ?_
          refine vops_skip rfl rfl (by decide) rfl ?_
          refine vops_skip rfl rfl (by decide) rfl ?_
          refine vops_rd (rd_pickT rfl rfl) rfl ?_
          refine vops_nil ?_
          obtain rfl := Option.some.inj hF
          refine onlyE ?_
          exact weak_pick hn [(0, 0)] (by decide) ⟨rn_ptr 0 0 rfl rfl, rn_low rfl (.bool _), trivial⟩ ⟨⟨_, rfl, rfl, .same _ _ _ _ (ltObj_es ⟨(lt_agg ⟨.int _ _, .int _ _, .vs _ _, trivial⟩), trivial⟩)⟩, trivial⟩
        · have hF := bifF c3 hF
          rcases Bool.eq_false_or_eq_true (decide (p0.Kind < 0)) with c4 | c4
          · have hF := bifT c4 hF
            refine vops_rd (rd_fieldAddr rfl tf_24_0 ts_3 (by decide)) rfl ?_
            refine vops_rd (rd_load1 rfl (getO_N hn rfl) rfl ta_3 rfl) rfl ?_
            refine vops_rd (rd_lss rfl rfl) rfl ?_
            refine vops_rd (rd_mvB rfl) rfl ?_
            refine vops_take rfl (congrArg PV.bool c2) ?_
            refine vops_rd (rd_fieldAddr rfl tf_24_0 ts_3 (by decide)) rfl ?_
            refine vops_take rfl (congrArg PV.bool c2) ?_
            refine vops_rd (rd_load1 rfl (getO_N hn rfl) rfl ta_3 rfl) rfl ?_
            refine vops_take rfl (congrArg PV.bool c2) ?_
            refine vops_rd (rd_gtr rfl rfl) rfl ?_
            refine vops_rd (rd_pickF (congrArg PV.bool c2) rfl) rfl ?_
            refine vops_rd (rd_mvB rfl) rfl ?_
            refine vops_take rfl (congrArg PV.bool c3) ?_
            refine vops_rd (rd_fieldAddr rfl tf_24_1 ts_3 (by decide)) rfl ?_
            refine vops_take rfl (congrArg PV.bool c3) ?_
            refine vops_rd (rd_load1 rfl (getO_N hn rfl) rfl ta_3 rfl) rfl ?_
            refine vops_take rfl (congrArg PV.bool c3) ?_
            refine vops_rd (rd_lss rfl rfl) rfl ?_
            refine vops_rd (rd_pickF (congrArg PV.bool c3) rfl) rfl ?_
            refine vops_rd (rd_mvB rfl) rfl ?_
            refine vops_skip rfl rfl (neT c4) rfl ?_
            refine vops_skip rfl rfl (neT c4) rfl ?_
            refine vops_skip rfl rfl (neT c4) rfl ?_
            refine vops_rd (rd_pickT (congrArg PV.bool c4) rfl) rfl ?_
            refine vops_nil ?_
            obtain rfl := Option.some.inj hF
            refine onlyE ?_
            exact weak_pick hn [(0, 0)] (by decide) ⟨rn_ptr 0 0 rfl rfl, rn_low rfl (.bool _), trivial⟩ ⟨⟨_, rfl, rfl, .same _ _ _ _ (ltObj_es ⟨(lt_agg ⟨.int _ _, .int _ _, .vs _ _, trivial⟩), trivial⟩)⟩, trivial⟩
          · have hF := bifF c4 hF
            refine vops_rd (rd_fieldAddr rfl tf_24_0 ts_3 (by decide)) rfl ?_
            refine vops_rd (rd_load1 rfl (getO_N hn rfl) rfl ta_3 rfl) rfl ?_
            refine vops_rd (rd_lss rfl rfl) rfl ?_
            refine vops_rd (rd_mvB rfl) rfl ?_
            refine vops_take rfl (congrArg PV.bool c2) ?_
            refine vops_rd (rd_fieldAddr rfl tf_24_0 ts_3 (by decide)) rfl ?_
            refine vops_take rfl (congrArg PV.bool c2) ?_
            refine vops_rd (rd_load1 rfl (getO_N hn rfl) rfl ta_3 rfl) rfl ?_
            refine vops_take rfl (congrArg PV.bool c2) ?_
            refine vops_rd (rd_gtr rfl rfl) rfl ?_
            refine vops_rd (rd_pickF (congrArg PV.bool c2) rfl) rfl ?_
            refine vops_rd (rd_mvB rfl) rfl ?_
            refine vops_take rfl (congrArg PV.bool c3) ?_
            refine vops_rd (rd_fieldAddr rfl tf_24_1 ts_3 (by decide)) rfl ?_
            refine vops_take rfl (congrArg PV.bool c3) ?_
            refine vops_rd (rd_load1 rfl (getO_N hn rfl) rfl ta_3 rfl) rfl ?_
            refine vops_take rfl (congrArg PV.bool c3) ?_
            refine vops_rd (rd_lss rfl rfl) rfl ?_
            refine vops_rd (rd_pickF (congrArg PV.bool c3) rfl) rfl ?_
            refine vops_rd (rd_mvB rfl) rfl ?_
            refine vops_take rfl (congrArg PV.bool c4) ?_
            refine vops_rd (rd_fieldAddr rfl tf_24_1 ts_3 (by decide)) rfl ?_
            refine vops_take rfl (congrArg PV.bool c4) ?_
            refine vops_rd (rd_load1 rfl (getO_N hn rfl) rfl ta_3 rfl) rfl ?_
            refine vops_take rfl (congrArg PV.bool c4) ?_
            refine vops_rd (rd_gtr rfl rfl) rfl ?_
            refine vops_rd (rd_pickF (congrArg PV.bool c4) rfl) rfl ?_
            refine vops_nil ?_
            obtain rfl := Option.some.inj hF
            refine onlyE ?_
            exact weak_pick hn [(0, 0)] (by decide) ⟨rn_ptr 0 0 rfl rfl, rn_low rfl (.bool _), trivial⟩ ⟨⟨_, rfl, rfl, .same _ _ _ _ (ltObj_es ⟨(lt_agg ⟨.int _ _, .int _ _, .vs _ _, trivial⟩), trivial⟩)⟩, trivial⟩
    · rintro _ _ _ _ ⟨rfl, hw⟩
      refine ⟨_, _, _, hw, ?_⟩
      refine vwp_cond rfl (fun c5 => ?_) (fun c5 => ?_)
      · have hF := bifT c5 hF
        refine vwp_seq ?_
        refine vwp_region ?_
        refine vops_efE (vef_nilsN hn rfl 5 1 (Nat.succ_pos _) (rd_asN rfl)) rfl ?_
        refine vops_rd (rd_asI rfl) rfl ?_
        refine vops_nil ?_
        refine vwp_ret ?_
        obtain rfl := Option.some.inj hF
        refine fnR ?_
        exact weak_pick hn [(1, 0)] (by decide) ⟨rn_sl 0 1 rfl rfl, rn_low rfl (.int _ _), trivial⟩ ⟨⟨_, rfl, rfl, .same _ _ _ _ (ltObj_es trivial)⟩, trivial⟩
      · have hF := bifF c5 hF
        refine vwp_skip ?_
        refine vwp_seq ?_
        refine vwp_seq ?_
        refine vwp_region ?_
        refine vops_rd (rd_fieldAddr rfl tf_24_2 ts_22 (by decide)) rfl ?_
        refine vops_rd (rd_load1 rfl (getO_N hn rfl) rfl ta_22 rfl) rfl ?_
        refine vops_rd (rd_to (rd_lenV rfl rfl te_22) (congrArg (fun n : Nat => PV.int .i64 (n : Int)) (List.length_map _))) rfl ?_
        refine vops_rd (rd_gtr rfl rfl) rfl ?_
        refine vops_nil ?_
        refine vwp_cond rfl (fun c6 => ?_) (fun c6 => ?_)
        · have hF := bifT c6 hF
          refine vwp_seq ?_
          refine vwp_region ?_
          refine vops_efE (vef_nilsN hn rfl 5 1 (Nat.succ_pos _) (rd_asN rfl)) rfl ?_
          refine vops_rd (rd_asI rfl) rfl ?_
          refine vops_nil ?_
          refine vwp_ret ?_
          obtain rfl := Option.some.inj hF
          refine fnR ?_
          exact weak_pick hn [(1, 0)] (by decide) ⟨rn_sl 0 1 rfl rfl, rn_low rfl (.int _ _), trivial⟩ ⟨⟨_, rfl, rfl, .same _ _ _ _ (ltObj_es trivial)⟩, trivial⟩
        · have hF := bifF c6 hF
          refine vwp_skip ?_
          refine vwp_seq ?_
          refine vwp_region ?_
          obtain ⟨x7, h8, hF⟩ := bnd hF
          refine vops_rd (rd_fieldAddr rfl tf_24_2 ts_22 (by decide)) rfl ?_
          refine vops_rd (rd_load1 rfl (getO_N hn rfl) rfl ta_22 rfl) rfl ?_
          refine vops_rd (rd_to (rd_lenV rfl rfl te_22) (congrArg (fun n : Nat => PV.int .i64 (n : Int)) (List.length_map _))) rfl ?_
          refine vops_rd (rd_conv rfl us_3 ti_5 rfl) rfl ?_
          refine vops_rd (rd_fieldAddr rfl tf_24_0 ts_3 (by decide)) rfl ?_
          refine vops_rd (rd_load1 rfl (getO_N hn rfl) rfl ta_3 rfl) rfl ?_
          refine vops_rd (rd_conv rfl us_3 ti_5 rfl) rfl ?_
          refine vops_rd (rd_fieldAddr rfl tf_24_1 ts_3 (by decide)) rfl ?_
          refine vops_rd (rd_load1 rfl (getO_N hn rfl) rfl ta_3 rfl) rfl ?_
          refine vops_rd (rd_conv rfl us_3 ti_5 rfl) rfl ?_
          refine vops_efE (vef_litN hn rfl (es := List.map (PV.int .u8) [126, (IntKind.u8.wrap ((p0.Data).length : Int)), (IntKind.u8.wrap p0.Address), (IntKind.u8.wrap p0.Kind)]) ⟨rfl, rfl, rfl, rfl, rfl, rfl, rfl, rfl, trivial⟩ rfl rfl (nt_all rfl) te_22 ts_5 tz_5 rfl rfl (Nat.succ_pos _) (by decide)) rfl ?_
          refine vops_rd (rd_fieldAddr rfl tf_24_2 ts_22 (by decide)) rfl ?_
          refine vops_rd (rd_load1 rfl (getO_N hn rfl) rfl ta_22 rfl) rfl ?_
          refine vops_efE (vef_apL (f := (PV.int .u8)) (l := [126, (IntKind.u8.wrap ((p0.Data).length : Int)), (IntKind.u8.wrap p0.Address), (IntKind.u8.wrap p0.Kind)]) (ys := p0.Data) rfl rfl (getO_N hn rfl) rfl (src_vs rfl) te_22 ts_5 tb_5 (by decide) tz_5 rfl h8 (setO_N hn rfl)) rfl ?_
          refine vops_rd (rd_asL rfl) rfl ?_
          refine vops_nil ?_
          refine vwp_seq ?_
          refine vwp_region ?_
          obtain ⟨x9, h10, hF⟩ := bnd hF
          obtain ⟨x11, h12, hF⟩ := bnd hF
          refine vops_rd (rd_mvL rfl) rfl ?_
          refine vops_rd (rd_slS rfl rfl (getO_N hn rfl) te_22 ts_5 ⟨_, rfl⟩ rfl h10) rfl ?_
          refine vops_efE (vef_callB (vs := [.vs 1 (List.map (PV.int .u8) x9)]) rfl Try.call15 ⟨view_sl rfl (getO_N hn rfl) rfl rfl (lt_map (fun _ => .int _ _)) (sub_take h10), trivial⟩ ((F_ref04_Check_ok h12 []).mono fun _ _ h => h.1) (.int _ _)) rfl ?_
          refine vops_rd (rd_asI rfl) rfl ?_
          refine vops_nil ?_
          refine vwp_seq ?_
          refine vwp_region ?_
          obtain ⟨x13, h14, hF⟩ := bnd hF
          refine vops_rd (rd_mvL rfl) rfl ?_
          refine vops_rd (rd_mvI rfl) rfl ?_
          refine vops_rd (rd_shrC (c := 256) rfl rfl (by decide) rfl (by decide)) rfl ?_
          refine vops_rd (rd_conv rfl us_3 ti_5 rfl) rfl ?_
          refine vops_rd (rd_mvI rfl) rfl ?_
          refine vops_rd (rd_conv rfl us_3 ti_5 rfl) rfl ?_
          refine vops_efE (vef_litF (es := List.map (PV.int .u8) [(IntKind.u8.wrap (x11 / 256)), (IntKind.u8.wrap x11)]) ⟨rfl, rfl, rfl, rfl, trivial⟩ rfl rfl (nt_all rfl) te_22 ts_5 tz_5 rfl rfl (Nat.succ_pos _) (by decide) (lt_map (fun _ => .int _ _))) rfl ?_
          refine vops_efE (vef_apL (f := (PV.int .u8)) (l := x7) (ys := [(IntKind.u8.wrap (x11 / 256)), (IntKind.u8.wrap x11)]) rfl rfl (getO_N hn rfl) rfl (src_vs rfl) te_22 ts_5 tb_5 (by decide) tz_5 rfl h14 (setO_N hn rfl)) rfl ?_
          refine vops_rd (rd_asL rfl) rfl ?_
          refine vops_rd (rd_asI rfl) rfl ?_
          refine vops_nil ?_
          refine vwp_ret ?_
          obtain rfl := Option.some.inj hF
          refine fnR ?_
          exact weak_pick hn [(1, (0 + 1) + 1)] (by decide) ⟨rn_sl 0 1 rfl rfl, rn_low rfl (.int _ _), trivial⟩ ⟨⟨_, rfl, rfl, .same _ _ _ _ (ltObj_map (fun _ => .int _ _))⟩, trivial⟩
  · rintro _ _ _ _ ⟨he, hw⟩
    refine ⟨_, _, _, hw, ?_⟩
    exact bodyQ_all he [.sl (n + 0) 0 0 (r.1).length, .int .i64 r.2] ⟨rfl, rfl, trivial⟩ ⟨rfl, rfl⟩

theorem F_law04_TelegramWrites_ok {p0 : List Int} {p1 : T_Frame} {p2 : List Int} {r : Bool} (hF : F_law04_TelegramWrites p0 p1 p2 = some r) (low : List AObj) :
    VCalls Try.prog 3 [.vs 1 (List.map (PV.int .u8) p0), .agg [.int .i64 p1.Address, .int .i64 p1.Kind, .vs 1 (List.map (PV.int .u8) p1.Data)], .vs 1 (List.map (PV.int .u8) p2)] low fun x low' => x = .bool r ∧ low' = low := by
  refine vcalls_of_body (nt := 62) (rs := [.tmp 6]) Try.func3 rfl rfl (Nat.le_of_ble_eq_true rfl) rfl ?_
  refine vwp_monoW (Q' := FnE (fun E' lw lc => Weak E' lw lc [(6, .bool r)] low [])) ?_ ?_
  · unfold F_law04_TelegramWrites at hF
    refine vwp_seq ?_
    refine vwp_region ?_
    refine vops_efE (vef_boxN rfl rfl (v := .agg [.int .i64 p1.Address, .int .i64 p1.Kind, .vs 1 (List.map (PV.int .u8) p1.Data)]) rfl rfl (Nat.succ_pos _) rfl rfl) rfl ?_
    refine vops_rd (rd_asB rfl) rfl ?_
    refine vops_nil ?_
    refine vwp_seq ?_
    refine vwp_seq ?_
    obtain ⟨o1, ho1, hF⟩ := bnd hF
    refine vwp_monoW (Q' := (fun o1 => OnlyE .normal (fun E' lw lc => Weak E' lw lc [(0, .vs 1 (List.map (PV.int .u8) p0)), (2, .vs 1 (List.map (PV.int .u8) p2)), (4, .ptr (low.length + 0) 0 0 0), (21, .bool o1)] low [⟨24, 3, [.agg [.int .i64 p1.Address, .int .i64 p1.Kind, .vs 1 (List.map (PV.int .u8) p1.Data)]], 0⟩])) o1) ?_ ?_
    · replace hF := ho1
      refine vwp_region ?_
      rcases Bool.eq_false_or_eq_true (decide (300 < ((p0).length : Int))) with c2 | c2
      · have hF := bifT c2 hF
        refine vops_rd (rd_mvV rfl) rfl ?_
        refine vops_rd (rd_to (rd_lenV rfl rfl te_22) (congrArg (fun n : Nat => PV.int .i64 (n : Int)) (List.length_map _))) rfl ?_
        refine vops_rd (rd_gtr rfl rfl) rfl ?_
        refine vops_rd (rd_mvB rfl) rfl ?_
        refine vops_skip rfl rfl (neT c2) rfl ?_
        refine vops_skip rfl rfl (neT c2) rfl ?_
        refine vops_skip rfl rfl (neT c2) rfl ?_
        refine vops_skip rfl rfl (neT c2) rfl ?_
        refine vops_rd (rd_pickT (congrArg PV.bool c2) rfl) rfl ?_
        refine vops_nil ?_
        obtain rfl := Option.some.inj hF
        refine onlyE ?_
        exact weak_sub ⟨rfl, rfl, rfl, rfl, trivial⟩
      · have hF := bifF c2 hF
        refine vops_rd (rd_mvV rfl) rfl ?_
        refine vops_rd (rd_to (rd_lenV rfl rfl te_22) (congrArg (fun n : Nat => PV.int .i64 (n : Int)) (List.length_map _))) rfl ?_
        refine vops_rd (rd_gtr rfl rfl) rfl ?_
        refine vops_rd (rd_mvB rfl) rfl ?_
        refine vops_take rfl (congrArg PV.bool c2) ?_
        refine vops_rd (rd_fieldAddr rfl tf_24_2 ts_22 (by decide)) rfl ?_
        refine vops_take rfl (congrArg PV.bool c2) ?_
        refine vops_rd (rd_load1 rfl (getO_N rfl rfl) rfl ta_22 rfl) rfl ?_
        refine vops_take rfl (congrArg PV.bool c2) ?_
        refine vops_rd (rd_to (rd_lenV rfl rfl te_22) (congrArg (fun n : Nat => PV.int .i64 (n : Int)) (List.length_map _))) rfl ?_
        refine vops_take rfl (congrArg PV.bool c2) ?_
        refine vops_rd (rd_gtr rfl rfl) rfl ?_
        refine vops_rd (rd_pickF (congrArg PV.bool c2) rfl) rfl ?_
        refine vops_nil ?_
        obtain rfl := Option.some.inj hF
        refine onlyE ?_
        exact weak_sub ⟨rfl, rfl, rfl, rfl, trivial⟩
    · rintro _ _ _ _ ⟨rfl, hw⟩
      refine ⟨_, _, _, hw, ?_⟩
      refine vwp_cond rfl (fun c3 => ?_) (fun c3 => ?_)
      · have hF := bifT c3 hF
        refine vwp_seq ?_
        refine vwp_region ?_
        obtain ⟨x4, h5, hF⟩ := bnd hF
        refine vops_efE (vef_callP rfl Try.call9 (F_law04_awake_ok h5 _)) rfl ?_
        refine vops_rd (rd_asB rfl) rfl ?_
        refine vops_nil ?_
        refine vwp_ret ?_
        obtain rfl := Option.some.inj hF
        refine fnR ?_
        exact weak_pick rfl [] (by decide) ⟨rn_low rfl (.bool _), trivial⟩ trivial
      · have hF := bifF c3 hF
        refine vwp_skip ?_
        refine vwp_seq ?_
        refine vwp_seq ?_
        obtain ⟨x6, h7, hF⟩ := bnd hF
        obtain ⟨x8, h9, hF⟩ := bnd hF
        refine vwp_drawn [[], [], [1], [1, 2], [0, 1, 2, 3], [0, 1, 2, 3, 4], []] [false, false, true, true, false, false, false] [(low, [⟨24, 3, [.agg [.int .i64 p1.Address, .int .i64 p1.Kind, .vs 1 (List.map (PV.int .u8) p1.Data)]], 0⟩]), (low, [⟨24, 3, [.agg [.int .i64 p1.Address, .int .i64 p1.Kind, .vs 1 (List.map (PV.int .u8) p1.Data)]], 0⟩, ⟨48, 2, [.agg [.vs 1 (List.map (PV.int .u8) x6.l), .int .i64 x6.at_]], 0⟩]), (low, [⟨24, 3, [.agg [.int .i64 p1.Address, .int .i64 p1.Kind, .vs 1 (List.map (PV.int .u8) p1.Data)]], 0⟩, ⟨48, 2, [.agg [.vs 1 (List.map (PV.int .u8) x8.1.l), .int .i64 x8.1.at_]], 0⟩])] mixed (by kernel_rfl) rfl (lenAll (all1 rfl (all1 rfl (all1 rfl all0)))) rfl (low, [⟨24, 3, [.agg [.int .i64 p1.Address, .int .i64 p1.Kind, .vs 1 (List.map (PV.int .u8) p1.Data)]], 0⟩, ⟨48, 2, [.agg [.vs 1 (List.map (PV.int .u8) x8.1.l), .int .i64 x8.1.at_]], 0⟩]) rfl rfl ?_
        refine dops_rdW [(low, [⟨24, 3, [.agg [.int .i64 p1.Address, .int .i64 p1.Kind, .vs 1 (List.map (PV.int .u8) p1.Data)]], 0⟩]), (low, [⟨24, 3, [.agg [.int .i64 p1.Address, .int .i64 p1.Kind, .vs 1 (List.map (PV.int .u8) p1.Data)]], 0⟩, ⟨48, 2, [.agg [.vs 1 (List.map (PV.int .u8) x6.l), .int .i64 x6.at_]], 0⟩]), (low, [⟨24, 3, [.agg [.int .i64 p1.Address, .int .i64 p1.Kind, .vs 1 (List.map (PV.int .u8) p1.Data)]], 0⟩, ⟨48, 2, [.agg [.vs 1 (List.map (PV.int .u8) x8.1.l), .int .i64 x8.1.at_]], 0⟩])] rfl rfl (all1 (VRd.ntl (rd_loadN (ds := [.int .i64 p1.Address, .int .i64 p1.Kind, .vs 1 (List.map (PV.int .u8) p1.Data)]) rfl (getO_N rfl rfl) rfl ta_24 ts_24 rfl rfl rfl)) (all1 (VRd.ntl (rd_loadN (ds := [.int .i64 p1.Address, .int .i64 p1.Kind, .vs 1 (List.map (PV.int .u8) p1.Data)]) rfl (getO_N rfl rfl) rfl ta_24 ts_24 rfl rfl rfl)) (all1 (VRd.ntl (rd_loadN (ds := [.int .i64 p1.Address, .int .i64 p1.Kind, .vs 1 (List.map (PV.int .u8) p1.Data)]) rfl (getO_N rfl rfl) rfl ta_24 ts_24 rfl rfl rfl)) all0))) ?_
        refine dops_rdW [(low, [⟨24, 3, [.agg [.int .i64 p1.Address, .int .i64 p1.Kind, .vs 1 (List.map (PV.int .u8) p1.Data)]], 0⟩])] rfl rfl (all1 (VRd.ntl (rd_mvV rfl)) all0) ?_
        refine dops_ef (M := (low, [⟨24, 3, [.agg [.int .i64 p1.Address, .int .i64 p1.Kind, .vs 1 (List.map (PV.int .u8) p1.Data)]], 0⟩])) (M' := (low, [⟨24, 3, [.agg [.int .i64 p1.Address, .int .i64 p1.Kind, .vs 1 (List.map (PV.int .u8) p1.Data)]], 0⟩, ⟨48, 2, [.agg [.vs 1 (List.map (PV.int .u8) x6.l), .int .i64 x6.at_]], 0⟩])) rfl rfl rfl (vef_callN (r := .ptr (low.length + 1) 0 0 0) (os := [⟨48, 2, [.agg [.vs 1 (List.map (PV.int .u8) x6.l), .int .i64 x6.at_]], 0⟩]) rfl Try.call10 (F_draw_New_ok h7 _ (len_app rfl rfl))) ?_
        refine dops_ef (M := (low, [⟨24, 3, [.agg [.int .i64 p1.Address, .int .i64 p1.Kind, .vs 1 (List.map (PV.int .u8) p1.Data)]], 0⟩, ⟨48, 2, [.agg [.vs 1 (List.map (PV.int .u8) x6.l), .int .i64 x6.at_]], 0⟩])) (M' := (low, [⟨24, 3, [.agg [.int .i64 p1.Address, .int .i64 p1.Kind, .vs 1 (List.map (PV.int .u8) p1.Data)]], 0⟩, ⟨48, 2, [.agg [.vs 1 (List.map (PV.int .u8) x8.1.l), .int .i64 x8.1.at_]], 0⟩])) rfl rfl rfl (vef_callMN (k := 1) (loc1 := [⟨24, 3, [.agg [.int .i64 p1.Address, .int .i64 p1.Kind, .vs 1 (List.map (PV.int .u8) p1.Data)]], 0⟩, ⟨48, 2, [.agg [.vs 1 (List.map (PV.int .u8) x8.1.l), .int .i64 x8.1.at_]], 0⟩]) rfl rfl Try.call11 (F_draw_Codes_Frame_ok h9 (get_N rfl rfl)) rfl) ?_
        refine dops_rdW [(low, [⟨24, 3, [.agg [.int .i64 p1.Address, .int .i64 p1.Kind, .vs 1 (List.map (PV.int .u8) p1.Data)]], 0⟩, ⟨48, 2, [.agg [.vs 1 (List.map (PV.int .u8) x8.1.l), .int .i64 x8.1.at_]], 0⟩])] rfl rfl (all1 (nt_of (vef_litF (es := List.map T_Frame.enc [p1, x8.2]) ⟨rfl, rfl, rfl, rfl, trivial⟩ rfl rfl (nt_all rfl) te_29 ts_24 tz_24 rfl rfl (Nat.succ_pos _) (by decide) (lt_map T_Frame.enc_lt))) all0) ?_
        refine dops_rdW [(low, [⟨24, 3, [.agg [.int .i64 p1.Address, .int .i64 p1.Kind, .vs 1 (List.map (PV.int .u8) p1.Data)]], 0⟩, ⟨48, 2, [.agg [.vs 1 (List.map (PV.int .u8) x8.1.l), .int .i64 x8.1.at_]], 0⟩])] rfl rfl (all1 (VRd.ntl (rd_to (rd_lenV rfl rfl te_29) (congrArg (fun n : Nat => PV.int .i64 (n : Int)) (List.length_map _)))) all0) ?_
        refine dops_rdW [(low, [⟨24, 3, [.agg [.int .i64 p1.Address, .int .i64 p1.Kind, .vs 1 (List.map (PV.int .u8) p1.Data)]], 0⟩]), (low, [⟨24, 3, [.agg [.int .i64 p1.Address, .int .i64 p1.Kind, .vs 1 (List.map (PV.int .u8) p1.Data)]], 0⟩, ⟨48, 2, [.agg [.vs 1 (List.map (PV.int .u8) x6.l), .int .i64 x6.at_]], 0⟩]), (low, [⟨24, 3, [.agg [.int .i64 p1.Address, .int .i64 p1.Kind, .vs 1 (List.map (PV.int .u8) p1.Data)]], 0⟩, ⟨48, 2, [.agg [.vs 1 (List.map (PV.int .u8) x8.1.l), .int .i64 x8.1.at_]], 0⟩])] rfl rfl (all1 (VRd.ntl (rd_mvI rfl)) (all1 (VRd.ntl (rd_mvI rfl)) (all1 (VRd.ntl (rd_mvI rfl)) all0))) ?_
        refine dops_nil ?_
        refine vwp_block ?_
        obtain ⟨o11, ho11, hF⟩ := bnd hF
        refine vwp_monoW (vwp_loopC (F_law04_TelegramWrites_L1 p1 x8) (fun s10 E' lw lc => Weak E' lw lc [(0, .vs 1 (List.map (PV.int .u8) p0)), (27, .vs 3 (List.map T_Frame.enc [p1, x8.2])), (28, .int .i64 (([p1, x8.2]).length : Int)), (29, .int .i64 s10)] low []) (Sum.elim (fun j12 => OnlyE .ret (fun E' lw lc => Weak E' lw lc [(6, .bool false)] low [])) (fun j13 => OnlyE (.exit 0) (fun E' lw lc => Weak E' lw lc [(0, .vs 1 (List.map (PV.int .u8) p0))] low []))) ho11 ?_ (by rintro (_|_) _ _ _ ⟨h, _⟩ <;> cases h) ?_) ?_
        · exact weak_pick rfl [] (by decide) ⟨rn_low rfl (.vs _ _), rn_low rfl (.vs _ _), rn_low rfl (.int _ _), rn_low rfl (.int _ _), trivial⟩ trivial
        · rintro s10 os10 _ _ _ hF hw
          unfold F_law04_TelegramWrites_L1 at hF
          refine vwp_weak hw ?_
          refine vwp_seq ?_
          refine vwp_region ?_
          refine vops_rd (rd_lss rfl rfl) rfl ?_
          refine vops_nil ?_
          refine vwp_seq ?_
          refine vwp_cond rfl (fun c14 => ?_) (fun c14 => ?_)
          · have hF := bifT c14 hF
            refine vwp_skip ?_
            refine vwp_seq ?_
            refine vwp_block ?_
            refine vwp_seq ?_
            refine vwp_region ?_
            obtain ⟨x15, h16, hF⟩ := bnd hF
            refine vops_rd (rd_to (rd_ixV rfl rfl h16 te_29 ts_24) (v' := .vptr [.int .i64 x15.Address, .int .i64 x15.Kind, .vs 1 (List.map (PV.int .u8) x15.Data)] 0) rfl) rfl ?_
            refine vops_rd (rd_loadVN (ds := [.int .i64 x15.Address, .int .i64 x15.Kind, .vs 1 (List.map (PV.int .u8) x15.Data)]) rfl ta_24 ts_24 rfl rfl) rfl ?_
            refine vops_efE (vef_allocN rfl rfl tz_24 rfl rfl (Nat.succ_pos _) rfl) rfl ?_
            refine vops_efE (vef_store (p := .agg [.int .i64 x15.Address, .int .i64 x15.Kind, .vs 1 (List.map (PV.int .u8) x15.Data)]) (e' := .agg [.int .i64 x15.Address, .int .i64 x15.Kind, .vs 1 (List.map (PV.int .u8) x15.Data)]) rfl (getO_N rfl rfl) rfl rfl ts_24 rfl (nt_ne rfl) rfl (Nat.le_of_ble_eq_true rfl) rfl (setO_N rfl rfl)) rfl ?_
            refine vops_nil ?_
            refine vwp_seq ?_
            refine vwp_region ?_
            obtain ⟨x17, h18, hF⟩ := bnd hF
            refine vops_rd (rd_loadN (ds := [.int .i64 x15.Address, .int .i64 x15.Kind, .vs 1 (List.map (PV.int .u8) x15.Data)]) rfl (getO_N rfl rfl) rfl ta_24 ts_24 rfl rfl rfl) rfl ?_
            refine vops_efE (vef_callP rfl Try.call12 (F_telegram_Write_ok h18 _)) rfl ?_
            refine vops_rd (rd_mvT rfl) rfl ?_
            refine vops_rd (rd_extract rfl rfl) rfl ?_
            refine vops_rd (rd_extract rfl rfl) rfl ?_
            refine vops_rd (rd_asV rfl) rfl ?_
            refine vops_rd (rd_asI rfl) rfl ?_
            refine vops_nil ?_
            refine vwp_seq ?_
            refine vwp_region ?_
            obtain ⟨x19, h20, hF⟩ := bnd hF
            refine vops_rd (rd_loadN (ds := [.int .i64 x15.Address, .int .i64 x15.Kind, .vs 1 (List.map (PV.int .u8) x15.Data)]) rfl (getO_N rfl rfl) rfl ta_24 ts_24 rfl rfl rfl) rfl ?_
            refine vops_efE (vef_callN (r := .tup [.sl (low.length + 1) 0 0 (x19.1).length, .int .i64 x19.2]) (os := [⟨5, 1, List.map (PV.int .u8) x19.1, 0⟩]) rfl Try.call13 (F_ref04_Write_ok h20 _ (len_app rfl rfl))) rfl ?_
            refine vops_rd (rd_mvT rfl) rfl ?_
            refine vops_rd (rd_extract rfl rfl) rfl ?_
            refine vops_rd (rd_extract rfl rfl) rfl ?_
            refine vops_rd (rd_asL rfl) rfl ?_
            refine vops_rd (rd_asI rfl) rfl ?_
            refine vops_nil ?_
            refine vwp_seq ?_
            obtain ⟨o21, ho21, hF⟩ := bnd hF
            refine vwp_monoW (Q' := (fun o21 => OnlyE .normal (fun E' lw lc => Weak E' lw lc [(0, .vs 1 (List.map (PV.int .u8) p0)), (27, .vs 3 (List.map T_Frame.enc [p1, x8.2])), (28, .int .i64 (([p1, x8.2]).length : Int)), (29, .int .i64 s10), (52, .bool o21)] low [])) o21) ?_ ?_
            · replace hF := ho21
              refine vwp_region ?_
              rcases Bool.eq_false_or_eq_true (!((strOfNums x17.1).toList == (strOfNums x19.1).toList)) with c22 | c22
              · have hF := bifT c22 hF
                refine vops_rd (rd_mvV rfl) rfl ?_
                refine vops_rd (rd_str (xs := x17.1) (src_vs rfl) te_22 ti_5 tst_9) rfl ?_
                refine vops_rd (rd_mvL rfl) rfl ?_
                refine vops_rd (rd_str (xs := x19.1) (src_full rfl (getO_N rfl rfl)) te_22 ti_5 tst_9) rfl ?_
                refine vops_rd (rd_neqS rfl rfl) rfl ?_
                refine vops_rd (rd_mvB rfl) rfl ?_
                refine vops_skip rfl rfl (neT c22) rfl ?_
                refine vops_skip rfl rfl (neT c22) rfl ?_
                refine vops_skip rfl rfl (neT c22) rfl ?_
                refine vops_rd (rd_pickT (congrArg PV.bool c22) rfl) rfl ?_
                refine vops_nil ?_
                obtain rfl := Option.some.inj hF
                refine onlyE ?_
                exact weak_pick rfl [] (by decide) ⟨rn_low rfl (.vs _ _), rn_low rfl (.vs _ _), rn_low rfl (.int _ _), rn_low rfl (.int _ _), rn_low rfl (.bool _), trivial⟩ trivial
              · have hF := bifF c22 hF
                refine vops_rd (rd_mvV rfl) rfl ?_
                refine vops_rd (rd_str (xs := x17.1) (src_vs rfl) te_22 ti_5 tst_9) rfl ?_
                refine vops_rd (rd_mvL rfl) rfl ?_
                refine vops_rd (rd_str (xs := x19.1) (src_full rfl (getO_N rfl rfl)) te_22 ti_5 tst_9) rfl ?_
                refine vops_rd (rd_neqS rfl rfl) rfl ?_
                refine vops_rd (rd_mvB rfl) rfl ?_
                refine vops_take rfl (congrArg PV.bool c22) ?_
                refine vops_rd (rd_mvI rfl) rfl ?_
                refine vops_take rfl (congrArg PV.bool c22) ?_
                refine vops_rd (rd_mvI rfl) rfl ?_
                refine vops_take rfl (congrArg PV.bool c22) ?_
                refine vops_rd (rd_neq rfl rfl) rfl ?_
                refine vops_rd (rd_pickF (congrArg PV.bool c22) rfl) rfl ?_
                refine vops_nil ?_
                obtain rfl := Option.some.inj hF
                refine onlyE ?_
                exact weak_pick rfl [] (by decide) ⟨rn_low rfl (.vs _ _), rn_low rfl (.vs _ _), rn_low rfl (.int _ _), rn_low rfl (.int _ _), rn_low rfl (.bool _), trivial⟩ trivial
            · rintro _ _ _ _ ⟨rfl, hw⟩
              refine ⟨_, _, _, hw, ?_⟩
              refine vwp_cond rfl (fun c23 => ?_) (fun c23 => ?_)
              · have hF := bifT c23 hF
                refine vwp_seq ?_
                refine vwp_region ?_
                refine vops_rd (rd_asB rfl) rfl ?_
                refine vops_nil ?_
                refine vwp_ret ?_
                obtain rfl := Option.some.inj hF
                refine onlyE ?_
                exact weak_sub ⟨rfl, trivial⟩
              · have hF := bifF c23 hF
                refine vwp_skip ?_
                refine vwp_region ?_
                refine vops_rd (rd_add rfl rfl rfl) rfl ?_
                refine vops_rd (rd_mvI rfl) rfl ?_
                refine vops_nil ?_
                obtain rfl := Option.some.inj hF
                refine onlyE ?_
                exact weak_sub ⟨rfl, rfl, rfl, rfl, trivial⟩
          · have hF := bifF c14 hF
            refine vwp_exit ?_
            obtain rfl := Option.some.inj hF
            refine onlyE ?_
            exact weak_sub ⟨rfl, trivial⟩
        · rcases o11 with j12 | j13
          · replace hF := elimL hF
            rintro _ _ _ _ ⟨rfl, hw⟩
            refine ⟨_, _, _, hw, ?_⟩
            obtain rfl := Option.some.inj hF
            refine fnR ?_
            exact weak_sub ⟨rfl, trivial⟩
          · replace hF := elimR hF
            rintro _ _ _ _ ⟨rfl, hw⟩
            refine ⟨_, _, _, hw, ?_⟩
            refine vwp_seq ?_
            refine vwp_region ?_
            obtain ⟨x24, h25, hF⟩ := bnd hF
            obtain ⟨x26, h27, hF⟩ := bnd hF
            rcases Bool.eq_false_or_eq_true (decide (x24 = x26)) with c28 | c28
            · have hF := bifT c28 hF
              obtain ⟨x29, h30, hF⟩ := bnd hF
              refine vops_rd (rd_mvV rfl) rfl ?_
              refine vops_efE (vef_callP rfl Try.call14 (F_telegram_Check_ok h25 _)) rfl ?_
              refine vops_rd (rd_mvV rfl) rfl ?_
              refine vops_efE (vef_callP rfl Try.call15 (F_ref04_Check_ok h27 _)) rfl ?_
              refine vops_rd (rd_eql rfl rfl) rfl ?_
              refine vops_rd (rd_mvB rfl) rfl ?_
              refine vops_take rfl (congrArg PV.bool c28) ?_
              refine vops_efE (vef_callP rfl Try.call9 (F_law04_awake_ok h30 _)) rfl ?_
              refine vops_rd (rd_pickT (congrArg PV.bool c28) rfl) rfl ?_
              refine vops_rd (rd_asB rfl) rfl ?_
              refine vops_nil ?_
              refine vwp_ret ?_
              obtain rfl := Option.some.inj hF
              refine fnR ?_
              exact weak_sub ⟨rfl, trivial⟩
            · have hF := bifF c28 hF
              refine vops_rd (rd_mvV rfl) rfl ?_
              refine vops_efE (vef_callP rfl Try.call14 (F_telegram_Check_ok h25 _)) rfl ?_
              refine vops_rd (rd_mvV rfl) rfl ?_
              refine vops_efE (vef_callP rfl Try.call15 (F_ref04_Check_ok h27 _)) rfl ?_
              refine vops_rd (rd_eql rfl rfl) rfl ?_
              refine vops_rd (rd_mvB rfl) rfl ?_
              refine vops_skip rfl rfl (neF c28) rfl ?_
              refine vops_rd (rd_pickF (congrArg PV.bool c28) rfl) rfl ?_
              refine vops_rd (rd_asB rfl) rfl ?_
              refine vops_nil ?_
              refine vwp_ret ?_
              obtain rfl := Option.some.inj hF
              refine fnR ?_
              exact weak_sub ⟨rfl, trivial⟩
  · rintro _ _ _ _ ⟨he, hw⟩
    refine ⟨_, _, _, hw, ?_⟩
    exact bodyQ_pure he [.bool r] ⟨rfl, trivial⟩ (.bool _) ⟨rfl, rfl⟩

theorem F_draw_Codes_Bytes_ok0 {p0 : T_draw_Codes} {p1 : Int} {r : T_draw_Codes × List Int} (hF : F_draw_Codes_Bytes p0 p1 = some r) {low0 : List AObj} {q0 w0 : Nat} (hq0 : q0 < low0.length) :
    VCalls Try.prog 16 [.ptr q0 w0 0 0, .int .i64 p1] (low0.set q0 ⟨48, 2, [.agg [.vs 1 (List.map (PV.int .u8) p0.l), .int .i64 p0.at_]], w0⟩) fun x low' => x = .vs 1 (List.map (PV.int .u8) r.2) ∧ low' = low0.set q0 ⟨48, 2, [.agg [.vs 1 (List.map (PV.int .u8) r.1.l), .int .i64 r.1.at_]], w0⟩ := by
  refine vcalls_of_body (nt := 61) (rs := [.tmp 4]) Try.func16 rfl rfl (Nat.le_of_ble_eq_true rfl) rfl ?_
  refine vwp_monoW (Q' := FnE (fun E' lw lc => Weak E' lw lc [(4, .vs 1 (List.map (PV.int .u8) r.2))] (low0.set q0 ⟨48, 2, [.agg [.vs 1 (List.map (PV.int .u8) r.1.l), .int .i64 r.1.at_]], w0⟩) [])) ?_ ?_
  · unfold F_draw_Codes_Bytes at hF
    refine vwp_seq ?_
    refine vwp_region ?_
    refine vops_rd (rd_nv (sz := 1) (rd_asN rfl)) rfl ?_
    refine vops_nil ?_
    refine vwp_seq ?_
    refine vwp_region ?_
    refine vops_efE (vef_nilsN List.length_set rfl 5 1 (Nat.succ_pos _) (rd_asN rfl)) rfl ?_
    refine vops_nil ?_
    refine vwp_seq ?_
    refine vwp_seq ?_
    refine vwp_region ?_
    obtain ⟨x1, h2, hF⟩ := bnd hF
    refine vops_rd (rd_mvP rfl) rfl ?_
    refine vops_rd (rd_mvI rfl) rfl ?_
    refine vops_rd (rd_add rfl rfl rfl) rfl ?_
    refine vops_efE (vef_callL hq0 (o' := ⟨48, 2, [.agg [.vs 1 (List.map (PV.int .u8) x1.1.l), .int .i64 x1.1.at_]], w0⟩) (ltObj_es ⟨(lt_agg ⟨.vs _ _, .int _ _, trivial⟩), trivial⟩) rfl Try.call21 (F_draw_Codes_Next_ok h2 (get_low hq0))) rfl ?_
    refine vops_rd (rd_asI rfl) rfl ?_
    refine vops_nil ?_
    refine vwp_block ?_
    obtain ⟨o4, ho4, hF⟩ := bnd hF
    refine vwp_monoW (vwp_loopC F_draw_Codes_Bytes_L1 (fun s3 E' lw lc => Weak E' lw lc [(0, .ptr q0 w0 0 0), (5, .sl (low0.length + 0) 0 0 (s3.2.1).length), (6, .int .i64 s3.1)] (low0.set q0 ⟨48, 2, [.agg [.vs 1 (List.map (PV.int .u8) s3.2.2.l), .int .i64 s3.2.2.at_]], w0⟩) [⟨5, 1, List.map (PV.int .u8) s3.2.1, 0⟩]) (fun o4 => OnlyE (.exit 0) (fun E' lw lc => Weak E' lw lc [(5, .sl (low0.length + 0) 0 0 (o4.1).length)] (low0.set q0 ⟨48, 2, [.agg [.vs 1 (List.map (PV.int .u8) o4.2.l), .int .i64 o4.2.at_]], w0⟩) [⟨5, 1, List.map (PV.int .u8) o4.1, 0⟩])) ho4 ?_ (by rintro _ _ _ _ ⟨h, _⟩ <;> cases h) ?_) ?_
    · exact weak_sub ⟨rfl, rfl, rfl, trivial⟩
    · rintro s3 os3 _ _ _ hF hw
      unfold F_draw_Codes_Bytes_L1 at hF
      refine vwp_weak hw ?_
      refine vwp_seq ?_
      refine vwp_seq ?_
      refine vwp_region ?_
      refine vops_rd (rd_mvI rfl) rfl ?_
      refine vops_rd (rd_gtr rfl rfl) rfl ?_
      refine vops_nil ?_
      refine vwp_cond rfl (fun c5 => ?_) (fun c5 => ?_)
      · have hF := bifT c5 hF
        refine vwp_skip ?_
        refine vwp_seq ?_
        refine vwp_block ?_
        refine vwp_seq ?_
        refine vwp_region ?_
        obtain ⟨x6, h7, hF⟩ := bnd hF
        obtain ⟨x8, h9, hF⟩ := bnd hF
        refine vops_rd (rd_mvP rfl) rfl ?_
        refine vops_efE (vef_callL hq0 (o' := ⟨48, 2, [.agg [.vs 1 (List.map (PV.int .u8) x6.1.l), .int .i64 x6.1.at_]], w0⟩) (ltObj_es ⟨(lt_agg ⟨.vs _ _, .int _ _, trivial⟩), trivial⟩) rfl Try.call11 (F_draw_Codes_Frame_ok h7 (get_low hq0))) rfl ?_
        refine vops_efE (vef_callN (r := .tup [.sl (low0.length + 1) 0 0 (x8.1).length, .int .i64 x8.2]) (os := [⟨5, 1, List.map (PV.int .u8) x8.1, 0⟩]) rfl Try.call13 (F_ref04_Write_ok h9 _ (len_app List.length_set rfl))) rfl ?_
        refine vops_rd (rd_mvT rfl) rfl ?_
        refine vops_rd (rd_extract rfl rfl) rfl ?_
        refine vops_rd (rd_extract rfl rfl) rfl ?_
        refine vops_rd (rd_asL rfl) rfl ?_
        refine vops_rd (rd_asI rfl) rfl ?_
        refine vops_nil ?_
        refine vwp_seq ?_
        refine vwp_seq ?_
        refine vwp_region ?_
        obtain ⟨x10, h11, hF⟩ := bnd hF
        refine vops_rd (rd_mvP rfl) rfl ?_
        refine vops_efE (vef_callL hq0 (o' := ⟨48, 2, [.agg [.vs 1 (List.map (PV.int .u8) x10.1.l), .int .i64 x10.1.at_]], w0⟩) (ltObj_es ⟨(lt_agg ⟨.vs _ _, .int _ _, trivial⟩), trivial⟩) rfl Try.call21 (F_draw_Codes_Next_ok h11 (get_low hq0))) rfl ?_
        refine vops_nil ?_
        obtain ⟨o12, ho12, hF⟩ := bnd hF
        refine vwp_monoW (Q' := (fun o12 => OnlyE .normal (fun E' lw lc => Weak E' lw lc [(0, .ptr q0 w0 0 0), (5, .sl (low0.length + 0) 0 0 (o12.2.1).length), (6, .int .i64 s3.1), (7, .vs 1 (List.map (PV.int .u8) o12.1))] (low0.set q0 ⟨48, 2, [.agg [.vs 1 (List.map (PV.int .u8) o12.2.2.l), .int .i64 o12.2.2.at_]], w0⟩) [⟨5, 1, List.map (PV.int .u8) o12.2.1, 0⟩])) o12) ?_ ?_
        · replace hF := ho12
          refine vwp_block ?_
          refine vwp_seq ?_
          refine vwp_region ?_
          refine vops_rd (rd_eql rfl rfl) rfl ?_
          refine vops_rd (rd_asB rfl) rfl ?_
          refine vops_nil ?_
          refine vwp_cond rfl (fun c13 => ?_) (fun c13 => ?_)
          · have hF := bifT c13 hF
            obtain ⟨x14, h15, hF⟩ := bnd hF
            obtain ⟨x16, h17, hF⟩ := bnd hF
            obtain ⟨x18, h19, hF⟩ := bnd hF
            obtain ⟨x20, h21, hF⟩ := bnd hF
            obtain ⟨x22, h23, hF⟩ := bnd hF
            refine vwp_drawn [[], [], [], [2], [1, 2, 3], [0, 1, 2, 3, 4], [0, 1, 2, 3, 4, 5], [], [1, 2, 3, 4, 7], [1, 2, 3, 4, 7, 8], [1, 2, 3, 4, 7, 8, 9], [0, 1, 2, 3, 4, 5, 6, 7, 8, 9, 10], [0, 1, 2, 3, 4, 5, 6, 7, 8, 9, 10, 11], [0, 1, 2, 3, 4, 5, 6, 7, 8, 9, 10, 11, 12]] [false, false, false, false, true, false, false, false, true, false, false, false, false, true] [((low0.set q0 ⟨48, 2, [.agg [.vs 1 (List.map (PV.int .u8) x10.1.l), .int .i64 x10.1.at_]], w0⟩), [⟨5, 1, List.map (PV.int .u8) s3.2.1, 0⟩, ⟨5, 1, List.map (PV.int .u8) x8.1, 0⟩]), ((low0.set q0 ⟨48, 2, [.agg [.vs 1 (List.map (PV.int .u8) x14.1.l), .int .i64 x14.1.at_]], w0⟩), [⟨5, 1, List.map (PV.int .u8) s3.2.1, 0⟩, ⟨5, 1, List.map (PV.int .u8) x8.1, 0⟩]), ((low0.set q0 ⟨48, 2, [.agg [.vs 1 (List.map (PV.int .u8) x18.1.l), .int .i64 x18.1.at_]], w0⟩), [⟨5, 1, List.map (PV.int .u8) s3.2.1, 0⟩, ⟨5, 1, List.map (PV.int .u8) x8.1, 0⟩]), ((low0.set q0 ⟨48, 2, [.agg [.vs 1 (List.map (PV.int .u8) x18.1.l), .int .i64 x18.1.at_]], w0⟩), [⟨5, 1, List.map (PV.int .u8) s3.2.1, 0⟩, ⟨5, 1, List.map (PV.int .u8) (x8.1.set ((x14.2).toNat) (bits .xor .u8 x16 x20)), 0⟩])] mixed (by kernel_rfl) rfl (lenAll (all1 len_set2 (all1 len_set2 (all1 len_set2 (all1 len_set2 all0))))) rfl ((low0.set q0 ⟨48, 2, [.agg [.vs 1 (List.map (PV.int .u8) x18.1.l), .int .i64 x18.1.at_]], w0⟩), [⟨5, 1, List.map (PV.int .u8) s3.2.1, 0⟩, ⟨5, 1, List.map (PV.int .u8) (x8.1.set ((x14.2).toNat) (bits .xor .u8 x16 x20)), 0⟩]) rfl rfl ?_
            refine dops_rdW [((low0.set q0 ⟨48, 2, [.agg [.vs 1 (List.map (PV.int .u8) x10.1.l), .int .i64 x10.1.at_]], w0⟩), [⟨5, 1, List.map (PV.int .u8) s3.2.1, 0⟩, ⟨5, 1, List.map (PV.int .u8) x8.1, 0⟩]), ((low0.set q0 ⟨48, 2, [.agg [.vs 1 (List.map (PV.int .u8) x14.1.l), .int .i64 x14.1.at_]], w0⟩), [⟨5, 1, List.map (PV.int .u8) s3.2.1, 0⟩, ⟨5, 1, List.map (PV.int .u8) x8.1, 0⟩]), ((low0.set q0 ⟨48, 2, [.agg [.vs 1 (List.map (PV.int .u8) x18.1.l), .int .i64 x18.1.at_]], w0⟩), [⟨5, 1, List.map (PV.int .u8) s3.2.1, 0⟩, ⟨5, 1, List.map (PV.int .u8) x8.1, 0⟩])] rfl rfl (all1 (VRd.ntl (rd_mvL rfl)) (all1 (VRd.ntl (rd_mvL rfl)) (all1 (VRd.ntl (rd_mvL rfl)) all0))) ?_
            refine dops_rdW [((low0.set q0 ⟨48, 2, [.agg [.vs 1 (List.map (PV.int .u8) x10.1.l), .int .i64 x10.1.at_]], w0⟩), [⟨5, 1, List.map (PV.int .u8) s3.2.1, 0⟩, ⟨5, 1, List.map (PV.int .u8) x8.1, 0⟩])] rfl rfl (all1 (VRd.ntl (rd_mvP rfl)) all0) ?_
            refine dops_rdW [((low0.set q0 ⟨48, 2, [.agg [.vs 1 (List.map (PV.int .u8) x10.1.l), .int .i64 x10.1.at_]], w0⟩), [⟨5, 1, List.map (PV.int .u8) s3.2.1, 0⟩, ⟨5, 1, List.map (PV.int .u8) x8.1, 0⟩])] rfl rfl (all1 (VRd.ntl (rd_mvL rfl)) all0) ?_
            refine dops_rdW [((low0.set q0 ⟨48, 2, [.agg [.vs 1 (List.map (PV.int .u8) x10.1.l), .int .i64 x10.1.at_]], w0⟩), [⟨5, 1, List.map (PV.int .u8) s3.2.1, 0⟩, ⟨5, 1, List.map (PV.int .u8) x8.1, 0⟩])] rfl rfl (all1 (VRd.ntl (rd_lenS rfl (getO_N List.length_set rfl) rfl rfl te_22)) all0) ?_
            refine dops_ef (M := ((low0.set q0 ⟨48, 2, [.agg [.vs 1 (List.map (PV.int .u8) x10.1.l), .int .i64 x10.1.at_]], w0⟩), [⟨5, 1, List.map (PV.int .u8) s3.2.1, 0⟩, ⟨5, 1, List.map (PV.int .u8) x8.1, 0⟩])) (M' := ((low0.set q0 ⟨48, 2, [.agg [.vs 1 (List.map (PV.int .u8) x14.1.l), .int .i64 x14.1.at_]], w0⟩), [⟨5, 1, List.map (PV.int .u8) s3.2.1, 0⟩, ⟨5, 1, List.map (PV.int .u8) x8.1, 0⟩])) rfl rfl rfl (vef_callL hq0 (o' := ⟨48, 2, [.agg [.vs 1 (List.map (PV.int .u8) x14.1.l), .int .i64 x14.1.at_]], w0⟩) (ltObj_es ⟨(lt_agg ⟨.vs _ _, .int _ _, trivial⟩), trivial⟩) rfl Try.call21 (F_draw_Codes_Next_ok h15 (get_low hq0))) ?_
            refine dops_rdW [((low0.set q0 ⟨48, 2, [.agg [.vs 1 (List.map (PV.int .u8) x14.1.l), .int .i64 x14.1.at_]], w0⟩), [⟨5, 1, List.map (PV.int .u8) s3.2.1, 0⟩, ⟨5, 1, List.map (PV.int .u8) x8.1, 0⟩]), ((low0.set q0 ⟨48, 2, [.agg [.vs 1 (List.map (PV.int .u8) x18.1.l), .int .i64 x18.1.at_]], w0⟩), [⟨5, 1, List.map (PV.int .u8) s3.2.1, 0⟩, ⟨5, 1, List.map (PV.int .u8) x8.1, 0⟩])] rfl rfl (all1 (VRd.ntl (rd_ixS rfl rfl rfl (getO_N List.length_set rfl) h17 te_22 ts_5)) (all1 (VRd.ntl (rd_ixS rfl rfl rfl (getO_N List.length_set rfl) h17 te_22 ts_5)) all0)) ?_
            refine dops_rdW [((low0.set q0 ⟨48, 2, [.agg [.vs 1 (List.map (PV.int .u8) x14.1.l), .int .i64 x14.1.at_]], w0⟩), [⟨5, 1, List.map (PV.int .u8) s3.2.1, 0⟩, ⟨5, 1, List.map (PV.int .u8) x8.1, 0⟩]), ((low0.set q0 ⟨48, 2, [.agg [.vs 1 (List.map (PV.int .u8) x18.1.l), .int .i64 x18.1.at_]], w0⟩), [⟨5, 1, List.map (PV.int .u8) s3.2.1, 0⟩, ⟨5, 1, List.map (PV.int .u8) x8.1, 0⟩])] rfl rfl (all1 (VRd.ntl (rd_ldL1 rfl (getO_N List.length_set rfl) (getI_some h17).2 ta_5 rfl)) (all1 (VRd.ntl (rd_ldL1 rfl (getO_N List.length_set rfl) (getI_some h17).2 ta_5 rfl)) all0)) ?_
            refine dops_rdW [((low0.set q0 ⟨48, 2, [.agg [.vs 1 (List.map (PV.int .u8) x10.1.l), .int .i64 x10.1.at_]], w0⟩), [⟨5, 1, List.map (PV.int .u8) s3.2.1, 0⟩, ⟨5, 1, List.map (PV.int .u8) x8.1, 0⟩]), ((low0.set q0 ⟨48, 2, [.agg [.vs 1 (List.map (PV.int .u8) x14.1.l), .int .i64 x14.1.at_]], w0⟩), [⟨5, 1, List.map (PV.int .u8) s3.2.1, 0⟩, ⟨5, 1, List.map (PV.int .u8) x8.1, 0⟩])] rfl rfl (all1 (VRd.ntl (rd_mvP rfl)) (all1 (VRd.ntl (rd_mvP rfl)) all0)) ?_
            refine dops_ef (M := ((low0.set q0 ⟨48, 2, [.agg [.vs 1 (List.map (PV.int .u8) x14.1.l), .int .i64 x14.1.at_]], w0⟩), [⟨5, 1, List.map (PV.int .u8) s3.2.1, 0⟩, ⟨5, 1, List.map (PV.int .u8) x8.1, 0⟩])) (M' := ((low0.set q0 ⟨48, 2, [.agg [.vs 1 (List.map (PV.int .u8) x18.1.l), .int .i64 x18.1.at_]], w0⟩), [⟨5, 1, List.map (PV.int .u8) s3.2.1, 0⟩, ⟨5, 1, List.map (PV.int .u8) x8.1, 0⟩])) rfl rfl rfl (vef_callL hq0 (o' := ⟨48, 2, [.agg [.vs 1 (List.map (PV.int .u8) x18.1.l), .int .i64 x18.1.at_]], w0⟩) (ltObj_es ⟨(lt_agg ⟨.vs _ _, .int _ _, trivial⟩), trivial⟩) rfl Try.call21 (F_draw_Codes_Next_ok h19 (get_low hq0))) ?_
            refine dops_rdW [((low0.set q0 ⟨48, 2, [.agg [.vs 1 (List.map (PV.int .u8) x18.1.l), .int .i64 x18.1.at_]], w0⟩), [⟨5, 1, List.map (PV.int .u8) s3.2.1, 0⟩, ⟨5, 1, List.map (PV.int .u8) x8.1, 0⟩])] rfl rfl (all1 (VRd.ntl (rd_conv rfl us_3 ti_49 rfl)) all0) ?_
            refine dops_rdW [((low0.set q0 ⟨48, 2, [.agg [.vs 1 (List.map (PV.int .u8) x18.1.l), .int .i64 x18.1.at_]], w0⟩), [⟨5, 1, List.map (PV.int .u8) s3.2.1, 0⟩, ⟨5, 1, List.map (PV.int .u8) x8.1, 0⟩])] rfl rfl (all1 (VRd.ntl (rd_shl rfl rfl (shlI_some h21).1 (shlI_some h21).2)) all0) ?_
            refine dops_rdW [((low0.set q0 ⟨48, 2, [.agg [.vs 1 (List.map (PV.int .u8) x18.1.l), .int .i64 x18.1.at_]], w0⟩), [⟨5, 1, List.map (PV.int .u8) s3.2.1, 0⟩, ⟨5, 1, List.map (PV.int .u8) x8.1, 0⟩])] rfl rfl (all1 (VRd.ntl (rd_xor rfl rfl rfl)) all0) ?_
            refine dops_rdW [((low0.set q0 ⟨48, 2, [.agg [.vs 1 (List.map (PV.int .u8) x18.1.l), .int .i64 x18.1.at_]], w0⟩), [⟨5, 1, List.map (PV.int .u8) s3.2.1, 0⟩, ⟨5, 1, List.map (PV.int .u8) x8.1, 0⟩])] rfl rfl (all1 (VRd.ntl (rd_ixS rfl rfl rfl (getO_N List.length_set rfl) h23 te_22 ts_5)) all0) ?_
            refine dops_ef (M := ((low0.set q0 ⟨48, 2, [.agg [.vs 1 (List.map (PV.int .u8) x18.1.l), .int .i64 x18.1.at_]], w0⟩), [⟨5, 1, List.map (PV.int .u8) s3.2.1, 0⟩, ⟨5, 1, List.map (PV.int .u8) x8.1, 0⟩])) (M' := ((low0.set q0 ⟨48, 2, [.agg [.vs 1 (List.map (PV.int .u8) x18.1.l), .int .i64 x18.1.at_]], w0⟩), [⟨5, 1, List.map (PV.int .u8) s3.2.1, 0⟩, ⟨5, 1, List.map (PV.int .u8) (x8.1.set ((x14.2).toNat) (bits .xor .u8 x16 x20)), 0⟩])) rfl rfl rfl (vef_stL (p := .int .u8 (bits .xor .u8 x16 x20)) (e' := (bits .xor .u8 x16 x20)) rfl (getO_N List.length_set rfl) (getI_some h23).2 rfl ts_5 rfl (nt_ne rfl) (Nat.le_of_ble_eq_true rfl) rfl (setO_N List.length_set rfl)) ?_
            refine dops_nil ?_
            obtain rfl := Option.some.inj hF
            refine onlyE ?_
            refine Weak.trans (weak_freezeN (E' := [(0, .ptr q0 w0 0 0), (5, .sl (low0.length + 0) 0 0 (s3.2.1).length), (6, .int .i64 s3.1), (7, .vs 1 (List.map (PV.int .u8) (x8.1.set ((x14.2).toNat) (bits .xor .u8 x16 x20))))]) (loc1 := [⟨5, 1, List.map (PV.int .u8) s3.2.1, 0⟩, ⟨5, 1, [], 0 + 1⟩]) List.length_set 1 rfl (lt_map (fun _ => .int _ _)) ⟨cv_same rfl, cv_same rfl, cv_same rfl, cv_sl rfl rfl rfl (full_take (Eq.trans rfl List.length_set.symm)), trivial⟩ ⟨.refl _, .refl _, trivial⟩) ?_
            exact weak_pick List.length_set [(0, 0)] (by decide) ⟨rn_low rfl (.ptr _ _ _ _ hq0), rn_sl 0 0 rfl rfl, rn_low rfl (.int _ _), rn_low rfl (.vs _ _), trivial⟩ ⟨⟨_, rfl, rfl, .same _ _ _ _ (ltObj_map (fun _ => .int _ _))⟩, trivial⟩
          · have hF := bifF c13 hF
            refine vwp_seq ?_
            refine vwp_region ?_
            refine vops_rd (rd_eql rfl rfl) rfl ?_
            refine vops_rd (rd_asB rfl) rfl ?_
            refine vops_nil ?_
            refine vwp_cond rfl (fun c24 => ?_) (fun c24 => ?_)
            · have hF := bifT c24 hF
              refine vwp_region ?_
              obtain ⟨x25, h26, hF⟩ := bnd hF
              obtain ⟨x27, h28, hF⟩ := bnd hF
              refine vops_rd (rd_mvL rfl) rfl ?_
              refine vops_rd (rd_mvP rfl) rfl ?_
              refine vops_rd (rd_mvL rfl) rfl ?_
              refine vops_rd (rd_lenS rfl (getO_N List.length_set rfl) rfl rfl te_22) rfl ?_
              refine vops_rd (rd_add rfl rfl rfl) rfl ?_
              refine vops_efE (vef_callL hq0 (o' := ⟨48, 2, [.agg [.vs 1 (List.map (PV.int .u8) x25.1.l), .int .i64 x25.1.at_]], w0⟩) (ltObj_es ⟨(lt_agg ⟨.vs _ _, .int _ _, trivial⟩), trivial⟩) rfl Try.call21 (F_draw_Codes_Next_ok h26 (get_low hq0))) rfl ?_
              refine vops_rd (rd_slS rfl rfl (getO_N List.length_set rfl) te_22 ts_5 rfl ⟨_, rfl⟩ h28) rfl ?_
              refine vops_rd (rd_asL rfl) rfl ?_
              refine vops_nil ?_
              obtain rfl := Option.some.inj hF
              refine onlyE ?_
              refine Weak.trans (weak_freezeN (E' := [(0, .ptr q0 w0 0 0), (5, .sl (low0.length + 0) 0 0 (s3.2.1).length), (6, .int .i64 s3.1), (7, .vs 1 (List.map (PV.int .u8) x27))]) (loc1 := [⟨5, 1, List.map (PV.int .u8) s3.2.1, 0⟩, ⟨5, 1, [], 0 + 1⟩]) List.length_set 1 rfl (lt_map (fun _ => .int _ _)) ⟨cv_same rfl, cv_same rfl, cv_same rfl, cv_sl rfl rfl rfl (sub_take h28), trivial⟩ ⟨.refl _, .refl _, trivial⟩) ?_
              exact weak_pick List.length_set [(0, 0)] (by decide) ⟨rn_low rfl (.ptr _ _ _ _ hq0), rn_sl 0 0 rfl rfl, rn_low rfl (.int _ _), rn_low rfl (.vs _ _), trivial⟩ ⟨⟨_, rfl, rfl, .same _ _ _ _ (ltObj_map (fun _ => .int _ _))⟩, trivial⟩
            · have hF := bifF c24 hF
              refine vwp_seq ?_
              refine vwp_region ?_
              refine vops_rd (rd_eql rfl rfl) rfl ?_
              refine vops_rd (rd_asB rfl) rfl ?_
              refine vops_nil ?_
              refine vwp_cond rfl (fun c29 => ?_) (fun c29 => ?_)
              · have hF := bifT c29 hF
                refine vwp_region ?_
                obtain ⟨x30, h31, hF⟩ := bnd hF
                obtain ⟨x32, h33, hF⟩ := bnd hF
                refine vops_rd (rd_mvL rfl) rfl ?_
                refine vops_rd (rd_mvP rfl) rfl ?_
                refine vops_efE (vef_callL hq0 (o' := ⟨48, 2, [.agg [.vs 1 (List.map (PV.int .u8) x30.1.l), .int .i64 x30.1.at_]], w0⟩) (ltObj_es ⟨(lt_agg ⟨.vs _ _, .int _ _, trivial⟩), trivial⟩) rfl Try.call21 (F_draw_Codes_Next_ok h31 (get_low hq0))) rfl ?_
                refine vops_rd (rd_conv rfl us_3 ti_5 rfl) rfl ?_
                refine vops_efE (vef_litF (es := List.map (PV.int .u8) [(IntKind.u8.wrap x30.2), 126]) ⟨rfl, rfl, rfl, rfl, trivial⟩ rfl rfl (nt_all rfl) te_22 ts_5 tz_5 rfl rfl (Nat.succ_pos _) (by decide) (lt_map (fun _ => .int _ _))) rfl ?_
                refine vops_efE (vef_apL (f := (PV.int .u8)) (l := s3.2.1) (ys := [(IntKind.u8.wrap x30.2), 126]) rfl rfl (getO_N List.length_set rfl) rfl (src_vs rfl) te_22 ts_5 tb_5 (by decide) tz_5 rfl h33 (setO_N List.length_set rfl)) rfl ?_
                refine vops_rd (rd_asL rfl) rfl ?_
                refine vops_nil ?_
                obtain rfl := Option.some.inj hF
                refine onlyE ?_
                refine Weak.trans (weak_freezeN (E' := [(0, .ptr q0 w0 0 0), (5, .sl (low0.length + 0) (0 + 1) 0 (x32).length), (6, .int .i64 s3.1), (7, .vs 1 (List.map (PV.int .u8) x8.1))]) (loc1 := [⟨5, 1, List.map (PV.int .u8) x32, 0 + 1⟩, ⟨5, 1, [], 0 + 1⟩]) List.length_set 1 rfl (lt_map (fun _ => .int _ _)) ⟨cv_same rfl, cv_same rfl, cv_same rfl, cv_sl rfl rfl rfl (full_take rfl), trivial⟩ ⟨.refl _, .refl _, trivial⟩) ?_
                exact weak_pick List.length_set [(0, 0 + 1)] (by decide) ⟨rn_low rfl (.ptr _ _ _ _ hq0), rn_sl 0 0 rfl rfl, rn_low rfl (.int _ _), rn_low rfl (.vs _ _), trivial⟩ ⟨⟨_, rfl, rfl, .same _ _ _ _ (ltObj_map (fun _ => .int _ _))⟩, trivial⟩
              · have hF := bifF c29 hF
                refine vwp_skip ?_
                obtain rfl := Option.some.inj hF
                refine onlyE ?_
                refine Weak.trans (weak_freezeN (E' := [(0, .ptr q0 w0 0 0), (5, .sl (low0.length + 0) 0 0 (s3.2.1).length), (6, .int .i64 s3.1), (7, .vs 1 (List.map (PV.int .u8) x8.1))]) (loc1 := [⟨5, 1, List.map (PV.int .u8) s3.2.1, 0⟩, ⟨5, 1, [], 0 + 1⟩]) List.length_set 1 rfl (lt_map (fun _ => .int _ _)) ⟨cv_same rfl, cv_same rfl, cv_same rfl, cv_sl rfl rfl rfl (full_take rfl), trivial⟩ ⟨.refl _, .refl _, trivial⟩) ?_
                exact weak_pick List.length_set [(0, 0)] (by decide) ⟨rn_low rfl (.ptr _ _ _ _ hq0), rn_sl 0 0 rfl rfl, rn_low rfl (.int _ _), rn_low rfl (.vs _ _), trivial⟩ ⟨⟨_, rfl, rfl, .same _ _ _ _ (ltObj_map (fun _ => .int _ _))⟩, trivial⟩
        · rintro _ _ _ _ ⟨rfl, hw⟩
          refine ⟨_, _, _, hw, ?_⟩
          refine vwp_region ?_
          obtain ⟨x34, h35, hF⟩ := bnd hF
          refine vops_rd (rd_mvL rfl) rfl ?_
          refine vops_rd (rd_mvV rfl) rfl ?_
          refine vops_efE (vef_apL (f := (PV.int .u8)) (l := o12.2.1) (ys := o12.1) rfl rfl (getO_N List.length_set rfl) rfl (src_vs rfl) te_22 ts_5 tb_5 (by decide) tz_5 rfl h35 (setO_N List.length_set rfl)) rfl ?_
          refine vops_rd (rd_asL rfl) rfl ?_
          refine vops_nil ?_
          refine vwp_region ?_
          refine vops_rd (rd_mvI rfl) rfl ?_
          refine vops_rd (rd_sub rfl rfl rfl) rfl ?_
          refine vops_rd (rd_asI rfl) rfl ?_
          refine vops_nil ?_
          obtain rfl := Option.some.inj hF
          refine onlyE ?_
          exact weak_pick List.length_set [(0, 0 + 1)] (by decide) ⟨rn_low rfl (.ptr _ _ _ _ hq0), rn_sl 0 0 rfl rfl, rn_low rfl (.int _ _), trivial⟩ ⟨⟨_, rfl, rfl, .same _ _ _ _ (ltObj_map (fun _ => .int _ _))⟩, trivial⟩
      · have hF := bifF c5 hF
        refine vwp_exit ?_
        obtain rfl := Option.some.inj hF
        refine onlyE ?_
        exact weak_sub ⟨rfl, trivial⟩
    · rintro _ _ _ _ ⟨rfl, hw⟩
      refine ⟨_, _, _, hw, ?_⟩
      refine vwp_seq ?_
      refine vwp_region ?_
      refine vops_rd (rd_mvL rfl) rfl ?_
      refine vops_rd (rd_asL rfl) rfl ?_
      refine vops_nil ?_
      refine vwp_ret ?_
      obtain rfl := Option.some.inj hF
      refine fnR ?_
      refine Weak.trans (weak_freezeN (E' := [(4, .vs 1 (List.map (PV.int .u8) o4.1))]) (loc1 := [⟨5, 1, [], 0 + 1⟩]) List.length_set 0 rfl (lt_map (fun _ => .int _ _)) ⟨cv_sl rfl rfl rfl (full_take rfl), trivial⟩ ⟨.refl _, trivial⟩) ?_
      exact weak_pick List.length_set [] (by decide) ⟨rn_low rfl (.vs _ _), trivial⟩ trivial
  · rintro _ _ _ _ ⟨he, hw⟩
    refine ⟨_, _, _, hw, ?_⟩
    exact bodyQ_pure he [.vs 1 (List.map (PV.int .u8) r.2)] ⟨rfl, trivial⟩ (.vs _ _) ⟨rfl, rfl⟩

theorem F_draw_Codes_Bytes_ok {p0 : T_draw_Codes} {p1 : Int} {r : T_draw_Codes × List Int} (hF : F_draw_Codes_Bytes p0 p1 = some r) {low : List AObj} {q0 w0 : Nat} (hq0 : low[q0]? = some ⟨48, 2, [.agg [.vs 1 (List.map (PV.int .u8) p0.l), .int .i64 p0.at_]], w0⟩) :
    VCalls Try.prog 16 [.ptr q0 w0 0 0, .int .i64 p1] low fun x low' => x = .vs 1 (List.map (PV.int .u8) r.2) ∧ low' = low.set q0 ⟨48, 2, [.agg [.vs 1 (List.map (PV.int .u8) r.1.l), .int .i64 r.1.at_]], w0⟩ := by
  obtain ⟨h1, h2⟩ := low_set hq0
  have h := F_draw_Codes_Bytes_ok0 hF (w0 := w0) h1
  rw [← h2] at h
  exact h

theorem F_draw_Mod_ok {p0 : Int} {p1 : Int} {r : Int} (hF : F_draw_Mod p0 p1 = some r) (low : List AObj) :
    VCalls Try.prog 17 [.int .i64 p0, .int .i64 p1] low fun x low' => x = .int .i64 r ∧ low' = low := by
  refine vcalls_of_body (nt := 16) (rs := [.tmp 4]) Try.func17 rfl rfl (Nat.le_of_ble_eq_true rfl) rfl ?_
  refine vwp_monoW (Q' := FnE (fun E' lw lc => Weak E' lw lc [(4, .int .i64 r)] low [])) ?_ ?_
  · unfold F_draw_Mod at hF
    refine vwp_seq ?_
    refine vwp_region ?_
    refine vops_rd (rd_asI rfl) rfl ?_
    refine vops_nil ?_
    refine vwp_seq ?_
    refine vwp_seq ?_
    refine vwp_region ?_
    refine vops_rd (rd_mvI rfl) rfl ?_
    refine vops_rd (rd_lss rfl rfl) rfl ?_
    refine vops_nil ?_
    refine vwp_cond rfl (fun c1 => ?_) (fun c1 => ?_)
    · have hF := bifT c1 hF
      refine vwp_seq ?_
      refine vwp_region ?_
      refine vops_rd (rd_asI rfl) rfl ?_
      refine vops_nil ?_
      refine vwp_ret ?_
      obtain rfl := Option.some.inj hF
      refine fnR ?_
      exact weak_sub ⟨rfl, trivial⟩
    · have hF := bifF c1 hF
      refine vwp_skip ?_
      refine vwp_seq ?_
      refine vwp_region ?_
      obtain ⟨x2, h3, hF⟩ := bnd hF
      refine vops_rd (rd_mvI rfl) rfl ?_
      refine vops_rd (rd_mvI rfl) rfl ?_
      refine vops_rd (rd_rem rfl rfl (remI_some h3).1 (remI_some h3).2) rfl ?_
      refine vops_rd (rd_asI rfl) rfl ?_
      refine vops_nil ?_
      refine vwp_seq ?_
      refine vwp_seq ?_
      refine vwp_region ?_
      refine vops_rd (rd_mvI rfl) rfl ?_
      refine vops_rd (rd_lss rfl rfl) rfl ?_
      refine vops_nil ?_
      obtain ⟨o4, ho4, hF⟩ := bnd hF
      refine vwp_monoW (Q' := (fun o4 => OnlyE .normal (fun E' lw lc => Weak E' lw lc [(0, .int .i64 o4)] low [])) o4) ?_ ?_
      · replace hF := ho4
        refine vwp_cond rfl (fun c5 => ?_) (fun c5 => ?_)
        · have hF := bifT c5 hF
          refine vwp_region ?_
          refine vops_rd (rd_mvI rfl) rfl ?_
          refine vops_rd (rd_mvI rfl) rfl ?_
          refine vops_rd (rd_add rfl rfl rfl) rfl ?_
          refine vops_rd (rd_asI rfl) rfl ?_
          refine vops_nil ?_
          obtain rfl := Option.some.inj hF
          refine onlyE ?_
          exact weak_sub ⟨rfl, trivial⟩
        · have hF := bifF c5 hF
          refine vwp_skip ?_
          obtain rfl := Option.some.inj hF
          refine onlyE ?_
          exact weak_sub ⟨rfl, trivial⟩
      · rintro _ _ _ _ ⟨rfl, hw⟩
        refine ⟨_, _, _, hw, ?_⟩
        refine vwp_seq ?_
        refine vwp_region ?_
        refine vops_rd (rd_mvI rfl) rfl ?_
        refine vops_rd (rd_asI rfl) rfl ?_
        refine vops_nil ?_
        refine vwp_ret ?_
        obtain rfl := Option.some.inj hF
        refine fnR ?_
        exact weak_sub ⟨rfl, trivial⟩
  · rintro _ _ _ _ ⟨he, hw⟩
    refine ⟨_, _, _, hw, ?_⟩
    exact bodyQ_pure he [.int .i64 r] ⟨rfl, trivial⟩ (.int _ _) ⟨rfl, rfl⟩

end Go.Proofs.Yteaagckebpanbaa
