/- Printed by wip/lift/lift.py: the walks that show that the program computes them. -/
import Derived.Test.YtmomjhbinkmefaaL39BeltsRawW4
namespace Go.Proofs.Ytmomjhbinkmefaa
open Go Go.Aml Go.L
attribute [local irreducible] VRd VEf VOp VOps VWp DOps
set_option linter.unusedVariables false
open Go.Aml renaming vops_rd → Va, vops_skip → Vb, rd_fieldAddr → Vc, getO_N → Vd, vwp_region → Ve, rd_load1 → Vf, vops_nil → Vg, ltObj_map → Vh, vwp_seq → Vi, rd_mvI → Vj, vops_efE → Vk, cv_same → Vl, rd_mvB → Vm, dops_skip → Vn, rd_pickF → Vo, rd_pickT → Vp, weak_sub → Vq, lenS → Vr, rn_low → Vs, vef_into → Vt, rd_loadN → Vu, weak_pick → Vv, vwp_monoW → Vw, vef_store → Vx, full_take → Vy, vt1 → Vz, rd_asI → Xa, vwp_ret → Xb, vcalls_of_body → Xc, rd_mvV → Xd, vef_allocN → Xe, vef_callN → Xf, rd_loadV1 → Xg, VRd → Xh, rd_to → Xi, vwp_cond → Xj, vef_callP → Xk, len_setL → Xl, rd_eql → Xm, len_app → Xn, rd_lenV → Xo, weak_freezeN → Xp, vwp_skip → Xq, setO_N → Xr, rx1 → Xs, ltObj_es → Xt, rn_sl → Xu, onlyE → Xv, dopx_rd → Xw, lt_agg → Xx, rd_asB → Xy, rd_extract → Xz, Weak → Ya, rd_fieldVaddr → Yb, nt_ne → Yc, dops_skipX → Yd, vwp_weak → Ye, mv_sl → Yf, all1 → Yg, lt_map → Yh, vef_mkN → Yi, rd_ixV → Yj, vwp_block → Yk, bifT → Yl, bifF → Ym, dr1 → Yn, rn_ptr → Yo, allx1 → Yp, cvo_agg → Yq, ne_low' → Yr, bnd → Ys, ne_own → Yt, weak_room → Yu, VCalls → Yv, vef_boxN → Yw, sets_own → Yx, dops_rdW → Yy, dops_nil → Yz, getO_B → Za, rd_neq → Zb, getI_some → Zc, dopx_ef → Zd, bodyQ_pure → Ze, vwp_drawn0 → Zf, view_same → Zg, neT → Zh, cv_sl → Zi, bodyQ_some → Zj, dt1 → Zk, view_sl → Zl, neF → Zm, rd_not → Zn, rd_lss → Zo, dops_ef → Zp, na1 → Zq, lt_kk → Zr, ex1 → Zs, all0 → Zt, vwp_loopC → Zu, rd_ixS → Zv, get_N → Zw, borC → Zx, fnR → Zy, vcalls_low → Zz, mv_ptr → Wa, vwp_drawn → Wb, vef_callS → Wc, rd_build → Wd, vwp_exit → We, dops_takeW → Wf, rd_nilPtr → Wg, sets_B → Wh, lp_some → Wi, lp_bindE → Wj, bor_start → Wk, sets_nil → Wl
set_option maxHeartbeats 4000000

theorem F_ref39_Same_ok {p0 : T_Line} {p1 : T_Line} {r : Bool} (hF : F_ref39_Same p0 p1 = some r) (low : List AObj) :
    Yv Try.prog 40 [.agg [.int .i64 p0.Time, .vs 1 (List.map (PV.int .i64) p0.States), .vs 1 (List.map (PV.int .i64) p0.Since), .vs 1 (List.map PV.bool p0.Pulled), .vs 1 (List.map PV.bool p0.Held)], .agg [.int .i64 p1.Time, .vs 1 (List.map (PV.int .i64) p1.States), .vs 1 (List.map (PV.int .i64) p1.Since), .vs 1 (List.map PV.bool p1.Pulled), .vs 1 (List.map PV.bool p1.Held)]] low fun x low' => x = .bool r ∧ low' = low := by
 refine Xc (nt := 38) (rs := [.tmp 4]) Try.func40 rfl rfl (Nat.le_of_ble_eq_true rfl) rfl ?_
 refine Vw (Q' := FnE (fun E' lw lc => Ya E' lw lc [(4, .bool r)] low [])) ?_ ?_
 ·unfold F_ref39_Same at hF
  refine Vi ?_
  refine Ve ?_
  refine Vk (Yw rfl rfl (v := .agg [.int .i64 p0.Time, .vs 1 (List.map (PV.int .i64) p0.States), .vs 1 (List.map (PV.int .i64) p0.Since), .vs 1 (List.map PV.bool p0.Pulled), .vs 1 (List.map PV.bool p0.Held)]) rfl rfl (Nat.succ_pos _) rfl rfl) rfl ?_
  refine Vk (Yw rfl rfl (v := .agg [.int .i64 p1.Time, .vs 1 (List.map (PV.int .i64) p1.States), .vs 1 (List.map (PV.int .i64) p1.Since), .vs 1 (List.map PV.bool p1.Pulled), .vs 1 (List.map PV.bool p1.Held)]) rfl rfl (Nat.succ_pos _) rfl rfl) rfl ?_
  refine Va (Xy rfl) rfl ?_
  refine Vg ?_
  refine Vi ?_
  refine Ve ?_
  rcases Bool.eq_false_or_eq_true (decide (p0.Time = p1.Time)) with c1 | c1
  ·have hF := Yl c1 hF
   obtain ⟨x2, h3, hF⟩ := Ys hF
   rcases Bool.eq_false_or_eq_true x2 with c4 | c4
   ·have hF := Yl c4 hF
    obtain ⟨x5, h6, hF⟩ := Ys hF
    rcases Bool.eq_false_or_eq_true x5 with c7 | c7
    ·have hF := Yl c7 hF
     obtain ⟨x8, h9, hF⟩ := Ys hF
     rcases Bool.eq_false_or_eq_true x8 with c10 | c10
     ·have hF := Yl c10 hF
      obtain ⟨x11, h12, hF⟩ := Ys hF
      refine Va (Vc rfl tf_34_0 ts_3 (by decide)) rfl ?_
      refine Va (Vf rfl (Vd rfl rfl) rfl ta_3 rfl) rfl ?_
      refine Va (Vc rfl tf_34_0 ts_3 (by decide)) rfl ?_
      refine Va (Vf rfl (Vd rfl rfl) rfl ta_3 rfl) rfl ?_
      refine Va (Xm rfl rfl) rfl ?_
      refine Va (Vm rfl) rfl ?_
      refine Vz rfl rfl c1 ?_
      refine Va (Vc rfl tf_34_1 ts_22 (by decide)) rfl ?_
      refine Vz rfl rfl c1 ?_
      refine Va (Vf rfl (Vd rfl rfl) rfl ta_22 rfl) rfl ?_
      refine Vz rfl rfl c1 ?_
      refine Va (Vc rfl tf_34_1 ts_22 (by decide)) rfl ?_
      refine Vz rfl rfl c1 ?_
      refine Va (Vf rfl (Vd rfl rfl) rfl ta_22 rfl) rfl ?_
      refine Vz rfl rfl c1 ?_
      refine Vk (Xk rfl Try.call42 (F_ref23_SameInts_ok h3 _)) rfl ?_
      refine Va (Vp (congrArg PV.bool c1) rfl) rfl ?_
      refine Va (Vm rfl) rfl ?_
      refine Vz rfl rfl c4 ?_
      refine Va (Vc rfl tf_34_2 ts_22 (by decide)) rfl ?_
      refine Vz rfl rfl c4 ?_
      refine Va (Vf rfl (Vd rfl rfl) rfl ta_22 rfl) rfl ?_
      refine Vz rfl rfl c4 ?_
      refine Va (Vc rfl tf_34_2 ts_22 (by decide)) rfl ?_
      refine Vz rfl rfl c4 ?_
      refine Va (Vf rfl (Vd rfl rfl) rfl ta_22 rfl) rfl ?_
      refine Vz rfl rfl c4 ?_
      refine Vk (Xk rfl Try.call42 (F_ref23_SameInts_ok h6 _)) rfl ?_
      refine Va (Vp (congrArg PV.bool c4) rfl) rfl ?_
      refine Va (Vm rfl) rfl ?_
      refine Vz rfl rfl c7 ?_
      refine Va (Vc rfl tf_34_3 ts_32 (by decide)) rfl ?_
      refine Vz rfl rfl c7 ?_
      refine Va (Vf rfl (Vd rfl rfl) rfl ta_32 rfl) rfl ?_
      refine Vz rfl rfl c7 ?_
      refine Va (Vc rfl tf_34_3 ts_32 (by decide)) rfl ?_
      refine Vz rfl rfl c7 ?_
      refine Va (Vf rfl (Vd rfl rfl) rfl ta_32 rfl) rfl ?_
      refine Vz rfl rfl c7 ?_
      refine Vk (Xk rfl Try.call56 (F_ref39_sameBools_ok h9 _)) rfl ?_
      refine Va (Vp (congrArg PV.bool c7) rfl) rfl ?_
      refine Va (Vm rfl) rfl ?_
      refine Vz rfl rfl c10 ?_
      refine Va (Vc rfl tf_34_4 ts_32 (by decide)) rfl ?_
      refine Vz rfl rfl c10 ?_
      refine Va (Vf rfl (Vd rfl rfl) rfl ta_32 rfl) rfl ?_
      refine Vz rfl rfl c10 ?_
      refine Va (Vc rfl tf_34_4 ts_32 (by decide)) rfl ?_
      refine Vz rfl rfl c10 ?_
      refine Va (Vf rfl (Vd rfl rfl) rfl ta_32 rfl) rfl ?_
      refine Vz rfl rfl c10 ?_
      refine Vk (Xk rfl Try.call56 (F_ref39_sameBools_ok h12 _)) rfl ?_
      refine Va (Vp (congrArg PV.bool c10) rfl) rfl ?_
      refine Va (Xy rfl) rfl ?_
      refine Vg ?_
      refine Xb ?_
      obtain rfl := Option.some.inj hF
      refine Zy ?_
      exact Vv rfl [] (by decide) ⟨Vs rfl (.bool _), trivial⟩ trivial
     ·have hF := Ym c10 hF
      refine Va (Vc rfl tf_34_0 ts_3 (by decide)) rfl ?_
      refine Va (Vf rfl (Vd rfl rfl) rfl ta_3 rfl) rfl ?_
      refine Va (Vc rfl tf_34_0 ts_3 (by decide)) rfl ?_
      refine Va (Vf rfl (Vd rfl rfl) rfl ta_3 rfl) rfl ?_
      refine Va (Xm rfl rfl) rfl ?_
      refine Va (Vm rfl) rfl ?_
      refine Vz rfl rfl c1 ?_
      refine Va (Vc rfl tf_34_1 ts_22 (by decide)) rfl ?_
      refine Vz rfl rfl c1 ?_
      refine Va (Vf rfl (Vd rfl rfl) rfl ta_22 rfl) rfl ?_
      refine Vz rfl rfl c1 ?_
      refine Va (Vc rfl tf_34_1 ts_22 (by decide)) rfl ?_
      refine Vz rfl rfl c1 ?_
      refine Va (Vf rfl (Vd rfl rfl) rfl ta_22 rfl) rfl ?_
      refine Vz rfl rfl c1 ?_
      refine Vk (Xk rfl Try.call42 (F_ref23_SameInts_ok h3 _)) rfl ?_
      refine Va (Vp (congrArg PV.bool c1) rfl) rfl ?_
      refine Va (Vm rfl) rfl ?_
      refine Vz rfl rfl c4 ?_
      refine Va (Vc rfl tf_34_2 ts_22 (by decide)) rfl ?_
      refine Vz rfl rfl c4 ?_
      refine Va (Vf rfl (Vd rfl rfl) rfl ta_22 rfl) rfl ?_
      refine Vz rfl rfl c4 ?_
      refine Va (Vc rfl tf_34_2 ts_22 (by decide)) rfl ?_
      refine Vz rfl rfl c4 ?_
      refine Va (Vf rfl (Vd rfl rfl) rfl ta_22 rfl) rfl ?_
      refine Vz rfl rfl c4 ?_
      refine Vk (Xk rfl Try.call42 (F_ref23_SameInts_ok h6 _)) rfl ?_
      refine Va (Vp (congrArg PV.bool c4) rfl) rfl ?_
      refine Va (Vm rfl) rfl ?_
      refine Vz rfl rfl c7 ?_
      refine Va (Vc rfl tf_34_3 ts_32 (by decide)) rfl ?_
      refine Vz rfl rfl c7 ?_
      refine Va (Vf rfl (Vd rfl rfl) rfl ta_32 rfl) rfl ?_
      refine Vz rfl rfl c7 ?_
      refine Va (Vc rfl tf_34_3 ts_32 (by decide)) rfl ?_
      refine Vz rfl rfl c7 ?_
      refine Va (Vf rfl (Vd rfl rfl) rfl ta_32 rfl) rfl ?_
      refine Vz rfl rfl c7 ?_
      refine Vk (Xk rfl Try.call56 (F_ref39_sameBools_ok h9 _)) rfl ?_
      refine Va (Vp (congrArg PV.bool c7) rfl) rfl ?_
      refine Va (Vm rfl) rfl ?_
      refine Vb rfl rfl (Zm c10) rfl ?_
      refine Vb rfl rfl (Zm c10) rfl ?_
      refine Vb rfl rfl (Zm c10) rfl ?_
      refine Vb rfl rfl (Zm c10) rfl ?_
      refine Vb rfl rfl (Zm c10) rfl ?_
      refine Va (Vo (congrArg PV.bool c10) rfl) rfl ?_
      refine Va (Xy rfl) rfl ?_
      refine Vg ?_
      refine Xb ?_
      obtain rfl := Option.some.inj hF
      refine Zy ?_
      exact Vv rfl [] (by decide) ⟨Vs rfl (.bool _), trivial⟩ trivial
    ·have hF := Ym c7 hF
     refine Va (Vc rfl tf_34_0 ts_3 (by decide)) rfl ?_
     refine Va (Vf rfl (Vd rfl rfl) rfl ta_3 rfl) rfl ?_
     refine Va (Vc rfl tf_34_0 ts_3 (by decide)) rfl ?_
     refine Va (Vf rfl (Vd rfl rfl) rfl ta_3 rfl) rfl ?_
     refine Va (Xm rfl rfl) rfl ?_
     refine Va (Vm rfl) rfl ?_
     refine Vz rfl rfl c1 ?_
     refine Va (Vc rfl tf_34_1 ts_22 (by decide)) rfl ?_
     refine Vz rfl rfl c1 ?_
     refine Va (Vf rfl (Vd rfl rfl) rfl ta_22 rfl) rfl ?_
     refine Vz rfl rfl c1 ?_
     refine Va (Vc rfl tf_34_1 ts_22 (by decide)) rfl ?_
     refine Vz rfl rfl c1 ?_
     refine Va (Vf rfl (Vd rfl rfl) rfl ta_22 rfl) rfl ?_
     refine Vz rfl rfl c1 ?_
     refine Vk (Xk rfl Try.call42 (F_ref23_SameInts_ok h3 _)) rfl ?_
     refine Va (Vp (congrArg PV.bool c1) rfl) rfl ?_
     refine Va (Vm rfl) rfl ?_
     refine Vz rfl rfl c4 ?_
     refine Va (Vc rfl tf_34_2 ts_22 (by decide)) rfl ?_
     refine Vz rfl rfl c4 ?_
     refine Va (Vf rfl (Vd rfl rfl) rfl ta_22 rfl) rfl ?_
     refine Vz rfl rfl c4 ?_
     refine Va (Vc rfl tf_34_2 ts_22 (by decide)) rfl ?_
     refine Vz rfl rfl c4 ?_
     refine Va (Vf rfl (Vd rfl rfl) rfl ta_22 rfl) rfl ?_
     refine Vz rfl rfl c4 ?_
     refine Vk (Xk rfl Try.call42 (F_ref23_SameInts_ok h6 _)) rfl ?_
     refine Va (Vp (congrArg PV.bool c4) rfl) rfl ?_
     refine Va (Vm rfl) rfl ?_
     refine Vb rfl rfl (Zm c7) rfl ?_
     refine Vb rfl rfl (Zm c7) rfl ?_
     refine Vb rfl rfl (Zm c7) rfl ?_
     refine Vb rfl rfl (Zm c7) rfl ?_
     refine Vb rfl rfl (Zm c7) rfl ?_
     refine Va (Vo (congrArg PV.bool c7) rfl) rfl ?_
     refine Va (Vm rfl) rfl ?_
     refine Vb rfl rfl (by decide) rfl ?_
     refine Vb rfl rfl (by decide) rfl ?_
     refine Vb rfl rfl (by decide) rfl ?_
     refine Vb rfl rfl (by decide) rfl ?_
     refine Vb rfl rfl (by decide) rfl ?_
     refine Va (Vo rfl rfl) rfl ?_
     refine Va (Xy rfl) rfl ?_
     refine Vg ?_
     refine Xb ?_
     obtain rfl := Option.some.inj hF
     refine Zy ?_
     exact Vv rfl [] (by decide) ⟨Vs rfl (.bool _), trivial⟩ trivial
   ·have hF := Ym c4 hF
    refine Va (Vc rfl tf_34_0 ts_3 (by decide)) rfl ?_
    refine Va (Vf rfl (Vd rfl rfl) rfl ta_3 rfl) rfl ?_
    refine Va (Vc rfl tf_34_0 ts_3 (by decide)) rfl ?_
    refine Va (Vf rfl (Vd rfl rfl) rfl ta_3 rfl) rfl ?_
    refine Va (Xm rfl rfl) rfl ?_
    refine Va (Vm rfl) rfl ?_
    refine Vz rfl rfl c1 ?_
    refine Va (Vc rfl tf_34_1 ts_22 (by decide)) rfl ?_
    refine Vz rfl rfl c1 ?_
    refine Va (Vf rfl (Vd rfl rfl) rfl ta_22 rfl) rfl ?_
    refine Vz rfl rfl c1 ?_
    refine Va (Vc rfl tf_34_1 ts_22 (by decide)) rfl ?_
    refine Vz rfl rfl c1 ?_
    refine Va (Vf rfl (Vd rfl rfl) rfl ta_22 rfl) rfl ?_
    refine Vz rfl rfl c1 ?_
    refine Vk (Xk rfl Try.call42 (F_ref23_SameInts_ok h3 _)) rfl ?_
    refine Va (Vp (congrArg PV.bool c1) rfl) rfl ?_
    refine Va (Vm rfl) rfl ?_
    refine Vb rfl rfl (Zm c4) rfl ?_
    refine Vb rfl rfl (Zm c4) rfl ?_
    refine Vb rfl rfl (Zm c4) rfl ?_
    refine Vb rfl rfl (Zm c4) rfl ?_
    refine Vb rfl rfl (Zm c4) rfl ?_
    refine Va (Vo (congrArg PV.bool c4) rfl) rfl ?_
    refine Va (Vm rfl) rfl ?_
    refine Vb rfl rfl (by decide) rfl ?_
    refine Vb rfl rfl (by decide) rfl ?_
    refine Vb rfl rfl (by decide) rfl ?_
    refine Vb rfl rfl (by decide) rfl ?_
    refine Vb rfl rfl (by decide) rfl ?_
    refine Va (Vo rfl rfl) rfl ?_
    refine Va (Vm rfl) rfl ?_
    refine Vb rfl rfl (by decide) rfl ?_
    refine Vb rfl rfl (by decide) rfl ?_
    refine Vb rfl rfl (by decide) rfl ?_
    refine Vb rfl rfl (by decide) rfl ?_
    refine Vb rfl rfl (by decide) rfl ?_
    refine Va (Vo rfl rfl) rfl ?_
    refine Va (Xy rfl) rfl ?_
    refine Vg ?_
    refine Xb ?_
    obtain rfl := Option.some.inj hF
    refine Zy ?_
    exact Vv rfl [] (by decide) ⟨Vs rfl (.bool _), trivial⟩ trivial
  ·have hF := Ym c1 hF
   refine Va (Vc rfl tf_34_0 ts_3 (by decide)) rfl ?_
   refine Va (Vf rfl (Vd rfl rfl) rfl ta_3 rfl) rfl ?_
   refine Va (Vc rfl tf_34_0 ts_3 (by decide)) rfl ?_
   refine Va (Vf rfl (Vd rfl rfl) rfl ta_3 rfl) rfl ?_
   refine Va (Xm rfl rfl) rfl ?_
   refine Va (Vm rfl) rfl ?_
   refine Vb rfl rfl (Zm c1) rfl ?_
   refine Vb rfl rfl (Zm c1) rfl ?_
   refine Vb rfl rfl (Zm c1) rfl ?_
   refine Vb rfl rfl (Zm c1) rfl ?_
   refine Vb rfl rfl (Zm c1) rfl ?_
   refine Va (Vo (congrArg PV.bool c1) rfl) rfl ?_
   refine Va (Vm rfl) rfl ?_
   refine Vb rfl rfl (by decide) rfl ?_
   refine Vb rfl rfl (by decide) rfl ?_
   refine Vb rfl rfl (by decide) rfl ?_
   refine Vb rfl rfl (by decide) rfl ?_
   refine Vb rfl rfl (by decide) rfl ?_
   refine Va (Vo rfl rfl) rfl ?_
   refine Va (Vm rfl) rfl ?_
   refine Vb rfl rfl (by decide) rfl ?_
   refine Vb rfl rfl (by decide) rfl ?_
   refine Vb rfl rfl (by decide) rfl ?_
   refine Vb rfl rfl (by decide) rfl ?_
   refine Vb rfl rfl (by decide) rfl ?_
   refine Va (Vo rfl rfl) rfl ?_
   refine Va (Vm rfl) rfl ?_
   refine Vb rfl rfl (by decide) rfl ?_
   refine Vb rfl rfl (by decide) rfl ?_
   refine Vb rfl rfl (by decide) rfl ?_
   refine Vb rfl rfl (by decide) rfl ?_
   refine Vb rfl rfl (by decide) rfl ?_
   refine Va (Vo rfl rfl) rfl ?_
   refine Va (Xy rfl) rfl ?_
   refine Vg ?_
   refine Xb ?_
   obtain rfl := Option.some.inj hF
   refine Zy ?_
   exact Vv rfl [] (by decide) ⟨Vs rfl (.bool _), trivial⟩ trivial
 ·rintro _ _ _ _ ⟨he, hw⟩
  refine ⟨_, _, _, hw, ?_⟩
  exact Ze he [.bool r] ⟨rfl, trivial⟩ (.bool _) ⟨rfl, rfl⟩

theorem F_ref39_Make_ok {p0 : List T_Belt} {r : T_Line × Int} (hF : F_ref39_Make p0 = some r) (low : List AObj) {n : Nat} (hn : low.length = n) :
    Yv Try.prog 21 [.vs 2 (List.map T_Belt.enc p0)] low fun x low' => x = .tup [.agg [.int .i64 r.1.Time, .sl (n + 0) 0 0 (r.1.States).length, .sl (n + 1) 0 0 (r.1.Since).length, .sl (n + 2) 0 0 (r.1.Pulled).length, .vs 1 (List.map PV.bool r.1.Held)], .int .i64 r.2] ∧ low' = low ++ [⟨3, 1, List.map (PV.int .i64) r.1.States, 0⟩, ⟨3, 1, List.map (PV.int .i64) r.1.Since, 0⟩, ⟨4, 1, List.map PV.bool r.1.Pulled, 0⟩] := by
 refine Xc (nt := 20) (rs := [.cell 2 34, .tmp 3]) Try.func21 rfl rfl (Nat.le_of_ble_eq_true rfl) rfl ?_
 refine Vw (Q' := FnE (fun E' lw lc => Ya E' lw lc [(2, .ptr (n + 3) 0 0 0), (3, .int .i64 r.2)] low [⟨3, 1, List.map (PV.int .i64) r.1.States, 0⟩, ⟨3, 1, List.map (PV.int .i64) r.1.Since, 0⟩, ⟨4, 1, List.map PV.bool r.1.Pulled, 0⟩, ⟨34, 5, [.agg [.int .i64 r.1.Time, .sl (n + 0) 0 0 (r.1.States).length, .sl (n + 1) 0 0 (r.1.Since).length, .sl (n + 2) 0 0 (r.1.Pulled).length, .vs 1 (List.map PV.bool r.1.Held)]], 0⟩])) ?_ ?_
 ·unfold F_ref39_Make at hF
  refine Vi ?_
  refine Ve ?_
  refine Vk (Xe hn rfl tz_34 rfl rfl (Nat.succ_pos _) rfl) rfl ?_
  refine Va (Xa rfl) rfl ?_
  refine Vg ?_
  refine Vi ?_
  refine Vi ?_
  refine Ve ?_
  obtain ⟨x1, h2, hF⟩ := Ys hF
  refine Va (Xd rfl) rfl ?_
  refine Vk (Xk rfl Try.call44 (F_ref39_belts_ok h2 _)) rfl ?_
  refine Va (Zn rfl) rfl ?_
  refine Vg ?_
  refine Xj rfl (fun c3 => ?_) (fun c3 => ?_)
  ·have hF := Yl c3 hF
   refine Vi ?_
   refine Ve ?_
   refine Va (rd_nc (Wd (vs := []) (ds := [.int .i64 0, .nils, .nils, .nils, .nils]) tz_34 rfl rfl tp_34 trivial (nt_all2 rfl) rfl) (nc_agg (cs := [.int .i64 0, .nils, .nils, .nils, .nils]) (ds := [.int .i64 0, .nils, .nils, .nils, .vs 1 (List.map PV.bool ([] : List Bool))]) rfl rfl ⟨nc_eq rfl, nc_eq rfl, nc_eq rfl, nc_eq rfl, nc_nil rfl rfl, trivial⟩)) rfl ?_
   refine Vk (Vx (p := .agg [.int .i64 0, .nils, .nils, .nils, .vs 1 (List.map PV.bool ([] : List Bool))]) (e' := .agg [.int .i64 0, .nils, .nils, .nils, .vs 1 (List.map PV.bool ([] : List Bool))]) rfl (Vd hn rfl) rfl rfl ts_34 rfl (Yc rfl) rfl (Nat.le_of_ble_eq_true rfl) rfl (Xr hn rfl)) rfl ?_
   refine Va (Xa rfl) rfl ?_
   refine Vg ?_
   refine Xb ?_
   obtain rfl := Option.some.inj hF
   refine Zy ?_
   refine Ya.trans (weak_nil (E' := [(2, .ptr (n + 0) 0 0 0), (3, .int .i64 6)]) (loc1 := [⟨34, 5, [.agg [.int .i64 0, .sl (n + 1) 0 0 (([] : List Int)).length, .nils, .nils, .vs 1 (List.map PV.bool ([] : List Bool))]], 0⟩]) hn rfl 3 1 (Nat.succ_pos _) ⟨nn_same rfl, nn_same rfl, trivial⟩ ⟨.agg _ _ _ _ _ ⟨nn_same rfl, nn_nil rfl, nn_same rfl, nn_same rfl, nn_same rfl, trivial⟩, trivial⟩) ?_
   refine Ya.trans (weak_nil (E' := [(2, .ptr (n + 0) 0 0 0), (3, .int .i64 6)]) (loc1 := [⟨34, 5, [.agg [.int .i64 0, .sl (n + 1) 0 0 (([] : List Int)).length, .sl (n + 2) 0 0 (([] : List Int)).length, .nils, .vs 1 (List.map PV.bool ([] : List Bool))]], 0⟩, ⟨3, 1, List.map (PV.int .i64) ([] : List Int), 0⟩]) hn rfl 3 1 (Nat.succ_pos _) ⟨nn_same rfl, nn_same rfl, trivial⟩ ⟨.agg _ _ _ _ _ ⟨nn_same rfl, nn_same rfl, nn_nil rfl, nn_same rfl, nn_same rfl, trivial⟩, .same _, trivial⟩) ?_
   refine Ya.trans (weak_nil (E' := [(2, .ptr (n + 0) 0 0 0), (3, .int .i64 6)]) (loc1 := [⟨34, 5, [.agg [.int .i64 0, .sl (n + 1) 0 0 (([] : List Int)).length, .sl (n + 2) 0 0 (([] : List Int)).length, .sl (n + 3) 0 0 (([] : List Bool)).length, .vs 1 (List.map PV.bool ([] : List Bool))]], 0⟩, ⟨3, 1, List.map (PV.int .i64) ([] : List Int), 0⟩, ⟨3, 1, List.map (PV.int .i64) ([] : List Int), 0⟩]) hn rfl 4 1 (Nat.succ_pos _) ⟨nn_same rfl, nn_same rfl, trivial⟩ ⟨.agg _ _ _ _ _ ⟨nn_same rfl, nn_same rfl, nn_same rfl, nn_nil rfl, nn_same rfl, trivial⟩, .same _, .same _, trivial⟩) ?_
   exact Vv hn [(1, 0), (2, 0), (3, 0), (0, 0)] (by decide) ⟨Yo 3 0 rfl rfl, Vs rfl (.int _ _), trivial⟩ ⟨⟨_, rfl, rfl, .same _ _ _ _ (Xt trivial)⟩, ⟨_, rfl, rfl, .same _ _ _ _ (Xt trivial)⟩, ⟨_, rfl, rfl, .same _ _ _ _ (Xt trivial)⟩, ⟨_, rfl, rfl, .agg _ _ _ _ _ ⟨Vs rfl (.int _ _), Xu 0 1 rfl rfl, Xu 1 2 rfl rfl, Xu 2 3 rfl rfl, Vs rfl (.vs _ _), trivial⟩⟩, trivial⟩
  ·have hF := Ym c3 hF
   refine Xq ?_
   refine Vi ?_
   refine Ve ?_
   refine Va (Xd rfl) rfl ?_
   refine Va (Xi (Xo rfl rfl te_27) (congrArg (fun n : Nat => PV.int .i64 (n : Int)) (List.length_map _))) rfl ?_
   refine Va (Xa rfl) rfl ?_
   refine Vg ?_
   refine Vi ?_
   obtain ⟨x4, h5, hF⟩ := Ys hF
   obtain ⟨x6, h7, hF⟩ := Ys hF
   obtain ⟨x8, h9, hF⟩ := Ys hF
   obtain ⟨x10, h11, hF⟩ := Ys hF
   refine Ye (Yu 3 1 (Nat.succ_pos _)) ?_
   refine Ye (Yu 3 1 (Nat.succ_pos _)) ?_
   refine Ye (Yu 4 1 (Nat.succ_pos _)) ?_
   refine Ye (Yu 4 1 (Nat.succ_pos _)) ?_
   refine vwp_drawnX [[], [0], [], [2], [], [4], [], [6], [0, 1, 2, 3, 4, 5, 6, 7], [0, 1, 2, 3, 4, 5, 6, 7, 8], [0, 1, 2, 3, 4, 5, 6, 7, 8, 9]] [false, true, false, true, false, true, false, true, false, true, false] [([], low, [⟨34, 5, [.agg [.int .i64 0, .nils, .nils, .nils, .nils]], 0⟩, ⟨3, 1, [], 0⟩, ⟨3, 1, [], 0⟩, ⟨4, 1, [], 0⟩, ⟨4, 1, [], 0⟩]), ([1], low, [⟨34, 5, [.agg [.int .i64 0, .nils, .nils, .nils, .nils]], 0⟩, ⟨3, 1, List.map (PV.int .i64) x4, 1⟩, ⟨3, 1, [], 0⟩, ⟨4, 1, [], 0⟩, ⟨4, 1, [], 0⟩]), ([3], low, [⟨34, 5, [.agg [.int .i64 0, .nils, .nils, .nils, .nils]], 0⟩, ⟨3, 1, [], 0⟩, ⟨3, 1, List.map (PV.int .i64) x6, 1⟩, ⟨4, 1, [], 0⟩, ⟨4, 1, [], 0⟩]), ([5], low, [⟨34, 5, [.agg [.int .i64 0, .nils, .nils, .nils, .nils]], 0⟩, ⟨3, 1, [], 0⟩, ⟨3, 1, [], 0⟩, ⟨4, 1, List.map PV.bool x8, 1⟩, ⟨4, 1, [], 0⟩]), ([7], low, [⟨34, 5, [.agg [.int .i64 0, .nils, .nils, .nils, .nils]], 0⟩, ⟨3, 1, [], 0⟩, ⟨3, 1, [], 0⟩, ⟨4, 1, [], 0⟩, ⟨4, 1, List.map PV.bool x10, 1⟩]), ([1, 3], low, [⟨34, 5, [.agg [.int .i64 0, .nils, .nils, .nils, .nils]], 0⟩, ⟨3, 1, List.map (PV.int .i64) x4, 1⟩, ⟨3, 1, List.map (PV.int .i64) x6, 1⟩, ⟨4, 1, [], 0⟩, ⟨4, 1, [], 0⟩]), ([1, 5], low, [⟨34, 5, [.agg [.int .i64 0, .nils, .nils, .nils, .nils]], 0⟩, ⟨3, 1, List.map (PV.int .i64) x4, 1⟩, ⟨3, 1, [], 0⟩, ⟨4, 1, List.map PV.bool x8, 1⟩, ⟨4, 1, [], 0⟩]), ([1, 7], low, [⟨34, 5, [.agg [.int .i64 0, .nils, .nils, .nils, .nils]], 0⟩, ⟨3, 1, List.map (PV.int .i64) x4, 1⟩, ⟨3, 1, [], 0⟩, ⟨4, 1, [], 0⟩, ⟨4, 1, List.map PV.bool x10, 1⟩]), ([3, 5], low, [⟨34, 5, [.agg [.int .i64 0, .nils, .nils, .nils, .nils]], 0⟩, ⟨3, 1, [], 0⟩, ⟨3, 1, List.map (PV.int .i64) x6, 1⟩, ⟨4, 1, List.map PV.bool x8, 1⟩, ⟨4, 1, [], 0⟩]), ([3, 7], low, [⟨34, 5, [.agg [.int .i64 0, .nils, .nils, .nils, .nils]], 0⟩, ⟨3, 1, [], 0⟩, ⟨3, 1, List.map (PV.int .i64) x6, 1⟩, ⟨4, 1, [], 0⟩, ⟨4, 1, List.map PV.bool x10, 1⟩]), ([5, 7], low, [⟨34, 5, [.agg [.int .i64 0, .nils, .nils, .nils, .nils]], 0⟩, ⟨3, 1, [], 0⟩, ⟨3, 1, [], 0⟩, ⟨4, 1, List.map PV.bool x8, 1⟩, ⟨4, 1, List.map PV.bool x10, 1⟩]), ([1, 3, 5], low, [⟨34, 5, [.agg [.int .i64 0, .nils, .nils, .nils, .nils]], 0⟩, ⟨3, 1, List.map (PV.int .i64) x4, 1⟩, ⟨3, 1, List.map (PV.int .i64) x6, 1⟩, ⟨4, 1, List.map PV.bool x8, 1⟩, ⟨4, 1, [], 0⟩]), ([1, 3, 7], low, [⟨34, 5, [.agg [.int .i64 0, .nils, .nils, .nils, .nils]], 0⟩, ⟨3, 1, List.map (PV.int .i64) x4, 1⟩, ⟨3, 1, List.map (PV.int .i64) x6, 1⟩, ⟨4, 1, [], 0⟩, ⟨4, 1, List.map PV.bool x10, 1⟩]), ([1, 5, 7], low, [⟨34, 5, [.agg [.int .i64 0, .nils, .nils, .nils, .nils]], 0⟩, ⟨3, 1, List.map (PV.int .i64) x4, 1⟩, ⟨3, 1, [], 0⟩, ⟨4, 1, List.map PV.bool x8, 1⟩, ⟨4, 1, List.map PV.bool x10, 1⟩]), ([3, 5, 7], low, [⟨34, 5, [.agg [.int .i64 0, .nils, .nils, .nils, .nils]], 0⟩, ⟨3, 1, [], 0⟩, ⟨3, 1, List.map (PV.int .i64) x6, 1⟩, ⟨4, 1, List.map PV.bool x8, 1⟩, ⟨4, 1, List.map PV.bool x10, 1⟩]), ([1, 3, 5, 7], low, [⟨34, 5, [.agg [.int .i64 0, .nils, .nils, .nils, .nils]], 0⟩, ⟨3, 1, List.map (PV.int .i64) x4, 1⟩, ⟨3, 1, List.map (PV.int .i64) x6, 1⟩, ⟨4, 1, List.map PV.bool x8, 1⟩, ⟨4, 1, List.map PV.bool x10, 1⟩]), ([1, 3, 5, 7, 9], low, [⟨34, 5, [.agg [.int .i64 0, .sl (n + 1) 1 0 (x4).length, .sl (n + 2) 1 0 (x6).length, .sl (n + 3) 1 0 (x8).length, .sl (n + 4) 1 0 (x10).length]], 0⟩, ⟨3, 1, List.map (PV.int .i64) x4, 1⟩, ⟨3, 1, List.map (PV.int .i64) x6, 1⟩, ⟨4, 1, List.map PV.bool x8, 1⟩, ⟨4, 1, List.map PV.bool x10, 1⟩])] mixed (by kernel_rfl) rfl (lenAllX (Yp rfl (Yp rfl (Yp rfl (Yp rfl (Yp rfl (Yp rfl (Yp rfl (Yp rfl (Yp rfl (Yp rfl (Yp rfl (Yp rfl (Yp rfl (Yp rfl (Yp rfl (Yp rfl (Yp rfl allx0)))))))))))))))))) rfl [1, 3, 5, 7, 9] (low, [⟨34, 5, [.agg [.int .i64 0, .sl (n + 1) 1 0 (x4).length, .sl (n + 2) 1 0 (x6).length, .sl (n + 3) 1 0 (x8).length, .sl (n + 4) 1 0 (x10).length]], 0⟩, ⟨3, 1, List.map (PV.int .i64) x4, 1⟩, ⟨3, 1, List.map (PV.int .i64) x6, 1⟩, ⟨4, 1, List.map PV.bool x8, 1⟩, ⟨4, 1, List.map PV.bool x10, 1⟩]) rfl rfl ?_
   refine Xw _ rfl rfl (Xs (Xh.ntl (Vj rfl)) (Xs (Xh.ntl (Vj rfl)) (Xs (Xh.ntl (Vj rfl)) (Xs (Xh.ntl (Vj rfl)) (Xs (Xh.ntl (Vj rfl)) (Xs (Xh.ntl (Vj rfl)) (Xs (Xh.ntl (Vj rfl)) (Xs (Xh.ntl (Vj rfl)) rx0)))))))) ?_
   refine Zd _ rfl rfl (Zs 1 rfl (Vt (f := 5) (k := 1) (m := 1) (os := [⟨3, 1, List.map (PV.int .i64) x4, 0⟩]) (os' := [⟨3, 1, List.map (PV.int .i64) x4, 1⟩]) (v := .sl (n + 5) 0 0 (x4).length) hn rfl rfl ⟨⟨_, rfl, rfl⟩, trivial⟩ (Yi (f := (PV.int .i64)) (zz := 0) hn rfl rfl rfl te_22 ts_3 tb_3 (by decide) tz_3 rfl rfl (Nat.succ_pos _) rfl h5) (Yf 0 rfl rfl rfl rfl) ⟨.same _ _ _ (Vh (fun _ => .int _ _)), trivial⟩ rfl) (Zs 5 rfl (Vt (f := 5) (k := 1) (m := 1) (os := [⟨3, 1, List.map (PV.int .i64) x4, 0⟩]) (os' := [⟨3, 1, List.map (PV.int .i64) x4, 1⟩]) (v := .sl (n + 5) 0 0 (x4).length) hn rfl rfl ⟨⟨_, rfl, rfl⟩, trivial⟩ (Yi (f := (PV.int .i64)) (zz := 0) hn rfl rfl rfl te_22 ts_3 tb_3 (by decide) tz_3 rfl rfl (Nat.succ_pos _) rfl h5) (Yf 0 rfl rfl rfl rfl) ⟨.same _ _ _ (Vh (fun _ => .int _ _)), trivial⟩ rfl) (Zs 6 rfl (Vt (f := 5) (k := 1) (m := 1) (os := [⟨3, 1, List.map (PV.int .i64) x4, 0⟩]) (os' := [⟨3, 1, List.map (PV.int .i64) x4, 1⟩]) (v := .sl (n + 5) 0 0 (x4).length) hn rfl rfl ⟨⟨_, rfl, rfl⟩, trivial⟩ (Yi (f := (PV.int .i64)) (zz := 0) hn rfl rfl rfl te_22 ts_3 tb_3 (by decide) tz_3 rfl rfl (Nat.succ_pos _) rfl h5) (Yf 0 rfl rfl rfl rfl) ⟨.same _ _ _ (Vh (fun _ => .int _ _)), trivial⟩ rfl) (Zs 7 rfl (Vt (f := 5) (k := 1) (m := 1) (os := [⟨3, 1, List.map (PV.int .i64) x4, 0⟩]) (os' := [⟨3, 1, List.map (PV.int .i64) x4, 1⟩]) (v := .sl (n + 5) 0 0 (x4).length) hn rfl rfl ⟨⟨_, rfl, rfl⟩, trivial⟩ (Yi (f := (PV.int .i64)) (zz := 0) hn rfl rfl rfl te_22 ts_3 tb_3 (by decide) tz_3 rfl rfl (Nat.succ_pos _) rfl h5) (Yf 0 rfl rfl rfl rfl) ⟨.same _ _ _ (Vh (fun _ => .int _ _)), trivial⟩ rfl) (Zs 11 rfl (Vt (f := 5) (k := 1) (m := 1) (os := [⟨3, 1, List.map (PV.int .i64) x4, 0⟩]) (os' := [⟨3, 1, List.map (PV.int .i64) x4, 1⟩]) (v := .sl (n + 5) 0 0 (x4).length) hn rfl rfl ⟨⟨_, rfl, rfl⟩, trivial⟩ (Yi (f := (PV.int .i64)) (zz := 0) hn rfl rfl rfl te_22 ts_3 tb_3 (by decide) tz_3 rfl rfl (Nat.succ_pos _) rfl h5) (Yf 0 rfl rfl rfl rfl) ⟨.same _ _ _ (Vh (fun _ => .int _ _)), trivial⟩ rfl) (Zs 12 rfl (Vt (f := 5) (k := 1) (m := 1) (os := [⟨3, 1, List.map (PV.int .i64) x4, 0⟩]) (os' := [⟨3, 1, List.map (PV.int .i64) x4, 1⟩]) (v := .sl (n + 5) 0 0 (x4).length) hn rfl rfl ⟨⟨_, rfl, rfl⟩, trivial⟩ (Yi (f := (PV.int .i64)) (zz := 0) hn rfl rfl rfl te_22 ts_3 tb_3 (by decide) tz_3 rfl rfl (Nat.succ_pos _) rfl h5) (Yf 0 rfl rfl rfl rfl) ⟨.same _ _ _ (Vh (fun _ => .int _ _)), trivial⟩ rfl) (Zs 13 rfl (Vt (f := 5) (k := 1) (m := 1) (os := [⟨3, 1, List.map (PV.int .i64) x4, 0⟩]) (os' := [⟨3, 1, List.map (PV.int .i64) x4, 1⟩]) (v := .sl (n + 5) 0 0 (x4).length) hn rfl rfl ⟨⟨_, rfl, rfl⟩, trivial⟩ (Yi (f := (PV.int .i64)) (zz := 0) hn rfl rfl rfl te_22 ts_3 tb_3 (by decide) tz_3 rfl rfl (Nat.succ_pos _) rfl h5) (Yf 0 rfl rfl rfl rfl) ⟨.same _ _ _ (Vh (fun _ => .int _ _)), trivial⟩ rfl) (Zs 15 rfl (Vt (f := 5) (k := 1) (m := 1) (os := [⟨3, 1, List.map (PV.int .i64) x4, 0⟩]) (os' := [⟨3, 1, List.map (PV.int .i64) x4, 1⟩]) (v := .sl (n + 5) 0 0 (x4).length) hn rfl rfl ⟨⟨_, rfl, rfl⟩, trivial⟩ (Yi (f := (PV.int .i64)) (zz := 0) hn rfl rfl rfl te_22 ts_3 tb_3 (by decide) tz_3 rfl rfl (Nat.succ_pos _) rfl h5) (Yf 0 rfl rfl rfl rfl) ⟨.same _ _ _ (Vh (fun _ => .int _ _)), trivial⟩ rfl) ex0)))))))) ?_
   refine Xw _ rfl rfl (Xs (Xh.ntl (Vj rfl)) (Xs (Xh.ntl (Vj rfl)) (Xs (Xh.ntl (Vj rfl)) (Xs (Xh.ntl (Vj rfl)) (Xs (Xh.ntl (Vj rfl)) (Xs (Xh.ntl (Vj rfl)) (Xs (Xh.ntl (Vj rfl)) (Xs (Xh.ntl (Vj rfl)) rx0)))))))) ?_
   refine Zd _ rfl rfl (Zs 2 rfl (Vt (f := 5) (k := 2) (m := 1) (os := [⟨3, 1, List.map (PV.int .i64) x6, 0⟩]) (os' := [⟨3, 1, List.map (PV.int .i64) x6, 1⟩]) (v := .sl (n + 5) 0 0 (x6).length) hn rfl rfl ⟨⟨_, rfl, rfl⟩, trivial⟩ (Yi (f := (PV.int .i64)) (zz := 0) hn rfl rfl rfl te_22 ts_3 tb_3 (by decide) tz_3 rfl rfl (Nat.succ_pos _) rfl h7) (Yf 0 rfl rfl rfl rfl) ⟨.same _ _ _ (Vh (fun _ => .int _ _)), trivial⟩ rfl) (Zs 5 rfl (Vt (f := 5) (k := 2) (m := 1) (os := [⟨3, 1, List.map (PV.int .i64) x6, 0⟩]) (os' := [⟨3, 1, List.map (PV.int .i64) x6, 1⟩]) (v := .sl (n + 5) 0 0 (x6).length) hn rfl rfl ⟨⟨_, rfl, rfl⟩, trivial⟩ (Yi (f := (PV.int .i64)) (zz := 0) hn rfl rfl rfl te_22 ts_3 tb_3 (by decide) tz_3 rfl rfl (Nat.succ_pos _) rfl h7) (Yf 0 rfl rfl rfl rfl) ⟨.same _ _ _ (Vh (fun _ => .int _ _)), trivial⟩ rfl) (Zs 8 rfl (Vt (f := 5) (k := 2) (m := 1) (os := [⟨3, 1, List.map (PV.int .i64) x6, 0⟩]) (os' := [⟨3, 1, List.map (PV.int .i64) x6, 1⟩]) (v := .sl (n + 5) 0 0 (x6).length) hn rfl rfl ⟨⟨_, rfl, rfl⟩, trivial⟩ (Yi (f := (PV.int .i64)) (zz := 0) hn rfl rfl rfl te_22 ts_3 tb_3 (by decide) tz_3 rfl rfl (Nat.succ_pos _) rfl h7) (Yf 0 rfl rfl rfl rfl) ⟨.same _ _ _ (Vh (fun _ => .int _ _)), trivial⟩ rfl) (Zs 9 rfl (Vt (f := 5) (k := 2) (m := 1) (os := [⟨3, 1, List.map (PV.int .i64) x6, 0⟩]) (os' := [⟨3, 1, List.map (PV.int .i64) x6, 1⟩]) (v := .sl (n + 5) 0 0 (x6).length) hn rfl rfl ⟨⟨_, rfl, rfl⟩, trivial⟩ (Yi (f := (PV.int .i64)) (zz := 0) hn rfl rfl rfl te_22 ts_3 tb_3 (by decide) tz_3 rfl rfl (Nat.succ_pos _) rfl h7) (Yf 0 rfl rfl rfl rfl) ⟨.same _ _ _ (Vh (fun _ => .int _ _)), trivial⟩ rfl) (Zs 11 rfl (Vt (f := 5) (k := 2) (m := 1) (os := [⟨3, 1, List.map (PV.int .i64) x6, 0⟩]) (os' := [⟨3, 1, List.map (PV.int .i64) x6, 1⟩]) (v := .sl (n + 5) 0 0 (x6).length) hn rfl rfl ⟨⟨_, rfl, rfl⟩, trivial⟩ (Yi (f := (PV.int .i64)) (zz := 0) hn rfl rfl rfl te_22 ts_3 tb_3 (by decide) tz_3 rfl rfl (Nat.succ_pos _) rfl h7) (Yf 0 rfl rfl rfl rfl) ⟨.same _ _ _ (Vh (fun _ => .int _ _)), trivial⟩ rfl) (Zs 12 rfl (Vt (f := 5) (k := 2) (m := 1) (os := [⟨3, 1, List.map (PV.int .i64) x6, 0⟩]) (os' := [⟨3, 1, List.map (PV.int .i64) x6, 1⟩]) (v := .sl (n + 5) 0 0 (x6).length) hn rfl rfl ⟨⟨_, rfl, rfl⟩, trivial⟩ (Yi (f := (PV.int .i64)) (zz := 0) hn rfl rfl rfl te_22 ts_3 tb_3 (by decide) tz_3 rfl rfl (Nat.succ_pos _) rfl h7) (Yf 0 rfl rfl rfl rfl) ⟨.same _ _ _ (Vh (fun _ => .int _ _)), trivial⟩ rfl) (Zs 14 rfl (Vt (f := 5) (k := 2) (m := 1) (os := [⟨3, 1, List.map (PV.int .i64) x6, 0⟩]) (os' := [⟨3, 1, List.map (PV.int .i64) x6, 1⟩]) (v := .sl (n + 5) 0 0 (x6).length) hn rfl rfl ⟨⟨_, rfl, rfl⟩, trivial⟩ (Yi (f := (PV.int .i64)) (zz := 0) hn rfl rfl rfl te_22 ts_3 tb_3 (by decide) tz_3 rfl rfl (Nat.succ_pos _) rfl h7) (Yf 0 rfl rfl rfl rfl) ⟨.same _ _ _ (Vh (fun _ => .int _ _)), trivial⟩ rfl) (Zs 15 rfl (Vt (f := 5) (k := 2) (m := 1) (os := [⟨3, 1, List.map (PV.int .i64) x6, 0⟩]) (os' := [⟨3, 1, List.map (PV.int .i64) x6, 1⟩]) (v := .sl (n + 5) 0 0 (x6).length) hn rfl rfl ⟨⟨_, rfl, rfl⟩, trivial⟩ (Yi (f := (PV.int .i64)) (zz := 0) hn rfl rfl rfl te_22 ts_3 tb_3 (by decide) tz_3 rfl rfl (Nat.succ_pos _) rfl h7) (Yf 0 rfl rfl rfl rfl) ⟨.same _ _ _ (Vh (fun _ => .int _ _)), trivial⟩ rfl) ex0)))))))) ?_
   refine Xw _ rfl rfl (Xs (Xh.ntl (Vj rfl)) (Xs (Xh.ntl (Vj rfl)) (Xs (Xh.ntl (Vj rfl)) (Xs (Xh.ntl (Vj rfl)) (Xs (Xh.ntl (Vj rfl)) (Xs (Xh.ntl (Vj rfl)) (Xs (Xh.ntl (Vj rfl)) (Xs (Xh.ntl (Vj rfl)) rx0)))))))) ?_
   refine Zd _ rfl rfl (Zs 3 rfl (Vt (f := 5) (k := 3) (m := 1) (os := [⟨4, 1, List.map PV.bool x8, 0⟩]) (os' := [⟨4, 1, List.map PV.bool x8, 1⟩]) (v := .sl (n + 5) 0 0 (x8).length) hn rfl rfl ⟨⟨_, rfl, rfl⟩, trivial⟩ (Yi (f := PV.bool) (zz := false) hn rfl rfl rfl te_32 ts_4 tb_4 (by decide) tz_4 rfl rfl (Nat.succ_pos _) rfl h9) (Yf 0 rfl rfl rfl rfl) ⟨.same _ _ _ (Vh (fun _ => .bool _)), trivial⟩ rfl) (Zs 6 rfl (Vt (f := 5) (k := 3) (m := 1) (os := [⟨4, 1, List.map PV.bool x8, 0⟩]) (os' := [⟨4, 1, List.map PV.bool x8, 1⟩]) (v := .sl (n + 5) 0 0 (x8).length) hn rfl rfl ⟨⟨_, rfl, rfl⟩, trivial⟩ (Yi (f := PV.bool) (zz := false) hn rfl rfl rfl te_32 ts_4 tb_4 (by decide) tz_4 rfl rfl (Nat.succ_pos _) rfl h9) (Yf 0 rfl rfl rfl rfl) ⟨.same _ _ _ (Vh (fun _ => .bool _)), trivial⟩ rfl) (Zs 8 rfl (Vt (f := 5) (k := 3) (m := 1) (os := [⟨4, 1, List.map PV.bool x8, 0⟩]) (os' := [⟨4, 1, List.map PV.bool x8, 1⟩]) (v := .sl (n + 5) 0 0 (x8).length) hn rfl rfl ⟨⟨_, rfl, rfl⟩, trivial⟩ (Yi (f := PV.bool) (zz := false) hn rfl rfl rfl te_32 ts_4 tb_4 (by decide) tz_4 rfl rfl (Nat.succ_pos _) rfl h9) (Yf 0 rfl rfl rfl rfl) ⟨.same _ _ _ (Vh (fun _ => .bool _)), trivial⟩ rfl) (Zs 10 rfl (Vt (f := 5) (k := 3) (m := 1) (os := [⟨4, 1, List.map PV.bool x8, 0⟩]) (os' := [⟨4, 1, List.map PV.bool x8, 1⟩]) (v := .sl (n + 5) 0 0 (x8).length) hn rfl rfl ⟨⟨_, rfl, rfl⟩, trivial⟩ (Yi (f := PV.bool) (zz := false) hn rfl rfl rfl te_32 ts_4 tb_4 (by decide) tz_4 rfl rfl (Nat.succ_pos _) rfl h9) (Yf 0 rfl rfl rfl rfl) ⟨.same _ _ _ (Vh (fun _ => .bool _)), trivial⟩ rfl) (Zs 11 rfl (Vt (f := 5) (k := 3) (m := 1) (os := [⟨4, 1, List.map PV.bool x8, 0⟩]) (os' := [⟨4, 1, List.map PV.bool x8, 1⟩]) (v := .sl (n + 5) 0 0 (x8).length) hn rfl rfl ⟨⟨_, rfl, rfl⟩, trivial⟩ (Yi (f := PV.bool) (zz := false) hn rfl rfl rfl te_32 ts_4 tb_4 (by decide) tz_4 rfl rfl (Nat.succ_pos _) rfl h9) (Yf 0 rfl rfl rfl rfl) ⟨.same _ _ _ (Vh (fun _ => .bool _)), trivial⟩ rfl) (Zs 13 rfl (Vt (f := 5) (k := 3) (m := 1) (os := [⟨4, 1, List.map PV.bool x8, 0⟩]) (os' := [⟨4, 1, List.map PV.bool x8, 1⟩]) (v := .sl (n + 5) 0 0 (x8).length) hn rfl rfl ⟨⟨_, rfl, rfl⟩, trivial⟩ (Yi (f := PV.bool) (zz := false) hn rfl rfl rfl te_32 ts_4 tb_4 (by decide) tz_4 rfl rfl (Nat.succ_pos _) rfl h9) (Yf 0 rfl rfl rfl rfl) ⟨.same _ _ _ (Vh (fun _ => .bool _)), trivial⟩ rfl) (Zs 14 rfl (Vt (f := 5) (k := 3) (m := 1) (os := [⟨4, 1, List.map PV.bool x8, 0⟩]) (os' := [⟨4, 1, List.map PV.bool x8, 1⟩]) (v := .sl (n + 5) 0 0 (x8).length) hn rfl rfl ⟨⟨_, rfl, rfl⟩, trivial⟩ (Yi (f := PV.bool) (zz := false) hn rfl rfl rfl te_32 ts_4 tb_4 (by decide) tz_4 rfl rfl (Nat.succ_pos _) rfl h9) (Yf 0 rfl rfl rfl rfl) ⟨.same _ _ _ (Vh (fun _ => .bool _)), trivial⟩ rfl) (Zs 15 rfl (Vt (f := 5) (k := 3) (m := 1) (os := [⟨4, 1, List.map PV.bool x8, 0⟩]) (os' := [⟨4, 1, List.map PV.bool x8, 1⟩]) (v := .sl (n + 5) 0 0 (x8).length) hn rfl rfl ⟨⟨_, rfl, rfl⟩, trivial⟩ (Yi (f := PV.bool) (zz := false) hn rfl rfl rfl te_32 ts_4 tb_4 (by decide) tz_4 rfl rfl (Nat.succ_pos _) rfl h9) (Yf 0 rfl rfl rfl rfl) ⟨.same _ _ _ (Vh (fun _ => .bool _)), trivial⟩ rfl) ex0)))))))) ?_
   refine Xw _ rfl rfl (Xs (Xh.ntl (Vj rfl)) (Xs (Xh.ntl (Vj rfl)) (Xs (Xh.ntl (Vj rfl)) (Xs (Xh.ntl (Vj rfl)) (Xs (Xh.ntl (Vj rfl)) (Xs (Xh.ntl (Vj rfl)) (Xs (Xh.ntl (Vj rfl)) (Xs (Xh.ntl (Vj rfl)) rx0)))))))) ?_
   refine Zd _ rfl rfl (Zs 4 rfl (Vt (f := 5) (k := 4) (m := 1) (os := [⟨4, 1, List.map PV.bool x10, 0⟩]) (os' := [⟨4, 1, List.map PV.bool x10, 1⟩]) (v := .sl (n + 5) 0 0 (x10).length) hn rfl rfl ⟨⟨_, rfl, rfl⟩, trivial⟩ (Yi (f := PV.bool) (zz := false) hn rfl rfl rfl te_32 ts_4 tb_4 (by decide) tz_4 rfl rfl (Nat.succ_pos _) rfl h11) (Yf 0 rfl rfl rfl rfl) ⟨.same _ _ _ (Vh (fun _ => .bool _)), trivial⟩ rfl) (Zs 7 rfl (Vt (f := 5) (k := 4) (m := 1) (os := [⟨4, 1, List.map PV.bool x10, 0⟩]) (os' := [⟨4, 1, List.map PV.bool x10, 1⟩]) (v := .sl (n + 5) 0 0 (x10).length) hn rfl rfl ⟨⟨_, rfl, rfl⟩, trivial⟩ (Yi (f := PV.bool) (zz := false) hn rfl rfl rfl te_32 ts_4 tb_4 (by decide) tz_4 rfl rfl (Nat.succ_pos _) rfl h11) (Yf 0 rfl rfl rfl rfl) ⟨.same _ _ _ (Vh (fun _ => .bool _)), trivial⟩ rfl) (Zs 9 rfl (Vt (f := 5) (k := 4) (m := 1) (os := [⟨4, 1, List.map PV.bool x10, 0⟩]) (os' := [⟨4, 1, List.map PV.bool x10, 1⟩]) (v := .sl (n + 5) 0 0 (x10).length) hn rfl rfl ⟨⟨_, rfl, rfl⟩, trivial⟩ (Yi (f := PV.bool) (zz := false) hn rfl rfl rfl te_32 ts_4 tb_4 (by decide) tz_4 rfl rfl (Nat.succ_pos _) rfl h11) (Yf 0 rfl rfl rfl rfl) ⟨.same _ _ _ (Vh (fun _ => .bool _)), trivial⟩ rfl) (Zs 10 rfl (Vt (f := 5) (k := 4) (m := 1) (os := [⟨4, 1, List.map PV.bool x10, 0⟩]) (os' := [⟨4, 1, List.map PV.bool x10, 1⟩]) (v := .sl (n + 5) 0 0 (x10).length) hn rfl rfl ⟨⟨_, rfl, rfl⟩, trivial⟩ (Yi (f := PV.bool) (zz := false) hn rfl rfl rfl te_32 ts_4 tb_4 (by decide) tz_4 rfl rfl (Nat.succ_pos _) rfl h11) (Yf 0 rfl rfl rfl rfl) ⟨.same _ _ _ (Vh (fun _ => .bool _)), trivial⟩ rfl) (Zs 12 rfl (Vt (f := 5) (k := 4) (m := 1) (os := [⟨4, 1, List.map PV.bool x10, 0⟩]) (os' := [⟨4, 1, List.map PV.bool x10, 1⟩]) (v := .sl (n + 5) 0 0 (x10).length) hn rfl rfl ⟨⟨_, rfl, rfl⟩, trivial⟩ (Yi (f := PV.bool) (zz := false) hn rfl rfl rfl te_32 ts_4 tb_4 (by decide) tz_4 rfl rfl (Nat.succ_pos _) rfl h11) (Yf 0 rfl rfl rfl rfl) ⟨.same _ _ _ (Vh (fun _ => .bool _)), trivial⟩ rfl) (Zs 13 rfl (Vt (f := 5) (k := 4) (m := 1) (os := [⟨4, 1, List.map PV.bool x10, 0⟩]) (os' := [⟨4, 1, List.map PV.bool x10, 1⟩]) (v := .sl (n + 5) 0 0 (x10).length) hn rfl rfl ⟨⟨_, rfl, rfl⟩, trivial⟩ (Yi (f := PV.bool) (zz := false) hn rfl rfl rfl te_32 ts_4 tb_4 (by decide) tz_4 rfl rfl (Nat.succ_pos _) rfl h11) (Yf 0 rfl rfl rfl rfl) ⟨.same _ _ _ (Vh (fun _ => .bool _)), trivial⟩ rfl) (Zs 14 rfl (Vt (f := 5) (k := 4) (m := 1) (os := [⟨4, 1, List.map PV.bool x10, 0⟩]) (os' := [⟨4, 1, List.map PV.bool x10, 1⟩]) (v := .sl (n + 5) 0 0 (x10).length) hn rfl rfl ⟨⟨_, rfl, rfl⟩, trivial⟩ (Yi (f := PV.bool) (zz := false) hn rfl rfl rfl te_32 ts_4 tb_4 (by decide) tz_4 rfl rfl (Nat.succ_pos _) rfl h11) (Yf 0 rfl rfl rfl rfl) ⟨.same _ _ _ (Vh (fun _ => .bool _)), trivial⟩ rfl) (Zs 15 rfl (Vt (f := 5) (k := 4) (m := 1) (os := [⟨4, 1, List.map PV.bool x10, 0⟩]) (os' := [⟨4, 1, List.map PV.bool x10, 1⟩]) (v := .sl (n + 5) 0 0 (x10).length) hn rfl rfl ⟨⟨_, rfl, rfl⟩, trivial⟩ (Yi (f := PV.bool) (zz := false) hn rfl rfl rfl te_32 ts_4 tb_4 (by decide) tz_4 rfl rfl (Nat.succ_pos _) rfl h11) (Yf 0 rfl rfl rfl rfl) ⟨.same _ _ _ (Vh (fun _ => .bool _)), trivial⟩ rfl) ex0)))))))) ?_
   refine Xw _ rfl rfl (Xs (Xh.ntl (Wd (vs := [(1, .sl (n + 1) 1 0 (x4).length), (2, .sl (n + 2) 1 0 (x6).length), (3, .sl (n + 3) 1 0 (x8).length), (4, .sl (n + 4) 1 0 (x10).length)]) (ds := [.int .i64 0, .sl (n + 1) 1 0 (x4).length, .sl (n + 2) 1 0 (x6).length, .sl (n + 3) 1 0 (x8).length, .sl (n + 4) 1 0 (x10).length]) tz_34 rfl rfl tp_34 ⟨rfl, rfl, rfl, rfl, rfl, rfl, rfl, rfl, trivial⟩ (nt_all2 rfl) rfl)) rx0) ?_
   refine Zd _ rfl rfl (Zs 16 rfl (Vx (p := .agg [.int .i64 0, .sl (n + 1) 1 0 (x4).length, .sl (n + 2) 1 0 (x6).length, .sl (n + 3) 1 0 (x8).length, .sl (n + 4) 1 0 (x10).length]) (e' := .agg [.int .i64 0, .sl (n + 1) 1 0 (x4).length, .sl (n + 2) 1 0 (x6).length, .sl (n + 3) 1 0 (x8).length, .sl (n + 4) 1 0 (x10).length]) rfl (Vd hn rfl) rfl rfl ts_34 rfl (Yc rfl) rfl (Nat.le_of_ble_eq_true rfl) rfl (Xr hn rfl)) ex0) ?_
   refine Xw _ rfl rfl (Xs (Xh.ntl (Xa rfl)) rx0) ?_
   refine dopx_nil ?_
   refine Xb ?_
   obtain rfl := Option.some.inj hF
   refine Zy ?_
   refine Ya.trans (Xp (E' := [(2, .ptr (n + 0) 0 0 0), (3, .int .i64 0)]) (loc1 := [⟨34, 5, [.agg [.int .i64 0, .sl (n + 1) 1 0 (x4).length, .sl (n + 2) 1 0 (x6).length, .sl (n + 3) 1 0 (x8).length, .vs 1 (List.map PV.bool x10)]], 0⟩, ⟨3, 1, List.map (PV.int .i64) x4, 1⟩, ⟨3, 1, List.map (PV.int .i64) x6, 1⟩, ⟨4, 1, List.map PV.bool x8, 1⟩, ⟨4, 1, [], 1 + 1⟩]) hn 4 rfl (Yh (fun _ => .bool _)) ⟨Vl rfl, Vl rfl, trivial⟩ ⟨Yq ⟨Vl rfl, Vl rfl, Vl rfl, Vl rfl, Zi rfl rfl rfl (Vy rfl), trivial⟩, .refl _, .refl _, .refl _, .refl _, trivial⟩) ?_
   exact Vv hn [(1, 1), (2, 1), (3, 1), (0, 0)] (by decide) ⟨Yo 3 0 rfl rfl, Vs rfl (.int _ _), trivial⟩ ⟨⟨_, rfl, rfl, .same _ _ _ _ (Vh (fun _ => .int _ _))⟩, ⟨_, rfl, rfl, .same _ _ _ _ (Vh (fun _ => .int _ _))⟩, ⟨_, rfl, rfl, .same _ _ _ _ (Vh (fun _ => .bool _))⟩, ⟨_, rfl, rfl, .agg _ _ _ _ _ ⟨Vs rfl (.int _ _), Xu 0 1 rfl rfl, Xu 1 2 rfl rfl, Xu 2 3 rfl rfl, Vs rfl (.vs _ _), trivial⟩⟩, trivial⟩
 ·rintro _ _ _ _ ⟨he, hw⟩
  refine ⟨_, _, _, hw, ?_⟩
  exact Zj hn 3 rfl (Nat.le_of_ble_eq_true rfl) he [.agg [.int .i64 r.1.Time, .sl (n + 0) 0 0 (r.1.States).length, .sl (n + 1) 0 0 (r.1.Since).length, .sl (n + 2) 0 0 (r.1.Pulled).length, .vs 1 (List.map PV.bool r.1.Held)], .int .i64 r.2] ⟨Vu rfl (Vd hn rfl) rfl ta_34 ts_34 rfl rfl rfl, rfl, trivial⟩ ((lt_tup ⟨(Xx ⟨.int _ _, .sl _ _ _ _ (Zr rfl), .sl _ _ _ _ (Zr rfl), .sl _ _ _ _ (Zr rfl), .vs _ _, trivial⟩), .int _ _, trivial⟩)) ⟨Vh (fun _ => .int _ _), Vh (fun _ => .int _ _), Vh (fun _ => .bool _), trivial⟩ ⟨rfl, rfl⟩

theorem F_law39_agree_ok {p0 : List T_Belt} {p1 : T_Line} {p2 : Int} {p3 : Int} {r : Bool} (hF : F_law39_agree p0 p1 p2 p3 = some r) (low : List AObj) :
    Yv Try.prog 18 [.vs 2 (List.map T_Belt.enc p0), .agg [.int .i64 p1.Time, .vs 1 (List.map (PV.int .i64) p1.States), .vs 1 (List.map (PV.int .i64) p1.Since), .vs 1 (List.map PV.bool p1.Pulled), .vs 1 (List.map PV.bool p1.Held)], .int .i64 p2, .int .i64 p3] low fun x low' => x = .bool r ∧ low' = low := by
 refine Xc (nt := 78) (rs := [.tmp 8]) Try.func18 rfl rfl (Nat.le_of_ble_eq_true rfl) rfl ?_
 refine Vw (Q' := FnE (fun E' lw lc => Ya E' lw lc [(8, .bool r)] low [])) ?_ ?_
 ·unfold F_law39_agree at hF
  refine Vi ?_
  refine Ve ?_
  refine Vk (Yw rfl rfl (v := .agg [.int .i64 p1.Time, .vs 1 (List.map (PV.int .i64) p1.States), .vs 1 (List.map (PV.int .i64) p1.Since), .vs 1 (List.map PV.bool p1.Pulled), .vs 1 (List.map PV.bool p1.Held)]) rfl rfl (Nat.succ_pos _) rfl rfl) rfl ?_
  refine Va (Xy rfl) rfl ?_
  refine Vg ?_
  refine Vi ?_
  refine Vi ?_
  refine Ve ?_
  refine Va (Xa rfl) rfl ?_
  refine Vg ?_
  refine Yk ?_
  obtain ⟨o2, ho2, hF⟩ := Ys hF
  refine Vw (Zu (F_law39_agree_L1 p0 p1 p2 p3) (fun s1 E' lw lc => Ya E' lw lc [(0, .vs 2 (List.map T_Belt.enc p0)), (2, .int .i64 p2), (3, .int .i64 p3), (5, .ptr (low.length + 0) 0 0 0), (9, .int .i64 s1)] low [⟨34, 5, [.agg [.int .i64 p1.Time, .vs 1 (List.map (PV.int .i64) p1.States), .vs 1 (List.map (PV.int .i64) p1.Since), .vs 1 (List.map PV.bool p1.Pulled), .vs 1 (List.map PV.bool p1.Held)]], 0⟩]) (Sum.elim (fun j3 => OnlyE .ret (fun E' lw lc => Ya E' lw lc [(8, .bool false)] low [])) (fun j4 => OnlyE (.exit 0) (fun E' lw lc => Ya E' lw lc [(0, .vs 2 (List.map T_Belt.enc p0)), (2, .int .i64 p2), (5, .ptr (low.length + 0) 0 0 0)] low [⟨34, 5, [.agg [.int .i64 p1.Time, .vs 1 (List.map (PV.int .i64) p1.States), .vs 1 (List.map (PV.int .i64) p1.Since), .vs 1 (List.map PV.bool p1.Pulled), .vs 1 (List.map PV.bool p1.Held)]], 0⟩]))) ho2 ?_ (by rintro (_|_) _ _ _ ⟨h, _⟩ <;> cases h) ?_) ?_
  ·exact Vq ⟨rfl, rfl, rfl, rfl, rfl, trivial⟩
  ·rintro s1 os1 _ _ _ hF hw
   unfold F_law39_agree_L1 at hF
   refine Ye hw ?_
   refine Vi ?_
   refine Vi ?_
   refine Ve ?_
   refine Va (Vj rfl) rfl ?_
   refine Va (Zo rfl rfl) rfl ?_
   refine Vg ?_
   refine Xj rfl (fun c5 => ?_) (fun c5 => ?_)
   ·have hF := Yl c5 hF
    refine Xq ?_
    refine Vi ?_
    refine Yk ?_
    refine Vi ?_
    refine Ve ?_
    obtain ⟨x6, h7, hF⟩ := Ys hF
    refine Va (Xd rfl) rfl ?_
    refine Va (Vu (ds := [.int .i64 p1.Time, .vs 1 (List.map (PV.int .i64) p1.States), .vs 1 (List.map (PV.int .i64) p1.Since), .vs 1 (List.map PV.bool p1.Pulled), .vs 1 (List.map PV.bool p1.Held)]) rfl (Vd rfl rfl) rfl ta_34 ts_34 rfl rfl rfl) rfl ?_
    refine Va (Vj rfl) rfl ?_
    refine Va (Vj rfl) rfl ?_
    refine Va (Vj rfl) rfl ?_
    refine Vk (Xf (r := .tup [.agg [.int .i64 x6.1.Time, .vs 1 (List.map (PV.int .i64) x6.1.States), .vs 1 (List.map (PV.int .i64) x6.1.Since), .vs 1 (List.map PV.bool x6.1.Pulled), .vs 1 (List.map PV.bool x6.1.Held)], .int .i64 x6.2.1, .agg [.int .i64 x6.2.2.1.Time, .sl (low.length + 1) 0 0 (x6.2.2.1.States).length, .sl (low.length + 2) 0 0 (x6.2.2.1.Since).length, .sl (low.length + 3) 0 0 (x6.2.2.1.Pulled).length, .vs 1 (List.map PV.bool x6.2.2.1.Held)], .int .i64 x6.2.2.2]) (os := [⟨3, 1, List.map (PV.int .i64) x6.2.2.1.States, 0⟩, ⟨3, 1, List.map (PV.int .i64) x6.2.2.1.Since, 0⟩, ⟨4, 1, List.map PV.bool x6.2.2.1.Pulled, 0⟩]) rfl Try.call22 (F_law39_step_ok h7 _ (Xn rfl rfl))) rfl ?_
    refine Va (rd_mvT rfl) rfl ?_
    refine Va (Xz rfl rfl) rfl ?_
    refine Va (Xz rfl rfl) rfl ?_
    refine Va (Xz rfl rfl) rfl ?_
    refine Va (Xz rfl rfl) rfl ?_
    refine Vk (Xe rfl rfl tz_34 rfl rfl (Nat.succ_pos _) rfl) rfl ?_
    refine Vk (Xe rfl rfl tz_34 rfl rfl (Nat.succ_pos _) rfl) rfl ?_
    refine Vk (Vx (p := .agg [.int .i64 x6.1.Time, .vs 1 (List.map (PV.int .i64) x6.1.States), .vs 1 (List.map (PV.int .i64) x6.1.Since), .vs 1 (List.map PV.bool x6.1.Pulled), .vs 1 (List.map PV.bool x6.1.Held)]) (e' := .agg [.int .i64 x6.1.Time, .vs 1 (List.map (PV.int .i64) x6.1.States), .vs 1 (List.map (PV.int .i64) x6.1.Since), .vs 1 (List.map PV.bool x6.1.Pulled), .vs 1 (List.map PV.bool x6.1.Held)]) rfl (Vd rfl rfl) rfl rfl ts_34 rfl (Yc rfl) rfl (Nat.le_of_ble_eq_true rfl) rfl (Xr rfl rfl)) rfl ?_
    refine Va (Xa rfl) rfl ?_
    refine Vk (Vx (p := .agg [.int .i64 x6.2.2.1.Time, .sl (low.length + 1) 0 0 (x6.2.2.1.States).length, .sl (low.length + 2) 0 0 (x6.2.2.1.Since).length, .sl (low.length + 3) 0 0 (x6.2.2.1.Pulled).length, .vs 1 (List.map PV.bool x6.2.2.1.Held)]) (e' := .agg [.int .i64 x6.2.2.1.Time, .sl (low.length + 1) 0 0 (x6.2.2.1.States).length, .sl (low.length + 2) 0 0 (x6.2.2.1.Since).length, .sl (low.length + 3) 0 0 (x6.2.2.1.Pulled).length, .vs 1 (List.map PV.bool x6.2.2.1.Held)]) rfl (Vd rfl rfl) rfl rfl ts_34 rfl (Yc rfl) rfl (Nat.le_of_ble_eq_true rfl) rfl (Xr rfl rfl)) rfl ?_
    refine Va (Xa rfl) rfl ?_
    refine Vg ?_
    refine Vi ?_
    obtain ⟨o8, ho8, hF⟩ := Ys hF
    refine Vw (Q' := (fun o8 => OnlyE .normal (fun E' lw lc => Ya E' lw lc [(0, .vs 2 (List.map T_Belt.enc p0)), (2, .int .i64 p2), (3, .int .i64 p3), (5, .ptr (low.length + 0) 0 0 0), (9, .int .i64 s1), (41, .bool o8)] low [⟨34, 5, [.agg [.int .i64 p1.Time, .vs 1 (List.map (PV.int .i64) p1.States), .vs 1 (List.map (PV.int .i64) p1.Since), .vs 1 (List.map PV.bool p1.Pulled), .vs 1 (List.map PV.bool p1.Held)]], 0⟩])) o8) ?_ ?_
    ·replace hF := ho8
     refine Ve ?_
     rcases Bool.eq_false_or_eq_true (decide (x6.2.1 ≠ x6.2.2.2)) with c9 | c9
     ·have hF := Yl c9 hF
      refine Va (Vj rfl) rfl ?_
      refine Va (Vj rfl) rfl ?_
      refine Va (Zb rfl rfl) rfl ?_
      refine Va (Vm rfl) rfl ?_
      refine Vb rfl rfl (Zh c9) rfl ?_
      refine Vb rfl rfl (Zh c9) rfl ?_
      refine Vb rfl rfl (Zh c9) rfl ?_
      refine Vb rfl rfl (Zh c9) rfl ?_
      refine Va (Vp (congrArg PV.bool c9) rfl) rfl ?_
      refine Vg ?_
      obtain rfl := Option.some.inj hF
      refine Xv ?_
      exact Vv rfl [(0, 0)] (by decide) ⟨Vs rfl (.vs _ _), Vs rfl (.int _ _), Vs rfl (.int _ _), Yo 0 0 rfl rfl, Vs rfl (.int _ _), Vs rfl (.bool _), trivial⟩ ⟨⟨_, rfl, rfl, .same _ _ _ _ (Xt ⟨Xx ⟨.int _ _, .vs _ _, .vs _ _, .vs _ _, .vs _ _, trivial⟩, trivial⟩)⟩, trivial⟩
     ·have hF := Ym c9 hF
      obtain ⟨x10, h11, hF⟩ := Ys hF
      refine Va (Vj rfl) rfl ?_
      refine Va (Vj rfl) rfl ?_
      refine Va (Zb rfl rfl) rfl ?_
      refine Va (Vm rfl) rfl ?_
      refine Vz rfl rfl c9 ?_
      refine Va (Vu (ds := [.int .i64 x6.1.Time, .vs 1 (List.map (PV.int .i64) x6.1.States), .vs 1 (List.map (PV.int .i64) x6.1.Since), .vs 1 (List.map PV.bool x6.1.Pulled), .vs 1 (List.map PV.bool x6.1.Held)]) rfl (Vd rfl rfl) rfl ta_34 ts_34 rfl rfl rfl) rfl ?_
      refine Vz rfl rfl c9 ?_
      refine Va (Vu (ds := [.int .i64 x6.2.2.1.Time, .sl (low.length + 1) 0 0 (x6.2.2.1.States).length, .sl (low.length + 2) 0 0 (x6.2.2.1.Since).length, .sl (low.length + 3) 0 0 (x6.2.2.1.Pulled).length, .vs 1 (List.map PV.bool x6.2.2.1.Held)]) rfl (Vd rfl rfl) rfl ta_34 ts_34 rfl rfl rfl) rfl ?_
      refine Vz rfl rfl c9 ?_
      refine Vk (vef_callB (vs := [.agg [.int .i64 x6.1.Time, .vs 1 (List.map (PV.int .i64) x6.1.States), .vs 1 (List.map (PV.int .i64) x6.1.Since), .vs 1 (List.map PV.bool x6.1.Pulled), .vs 1 (List.map PV.bool x6.1.Held)], .agg [.int .i64 x6.2.2.1.Time, .vs 1 (List.map (PV.int .i64) x6.2.2.1.States), .vs 1 (List.map (PV.int .i64) x6.2.2.1.Since), .vs 1 (List.map PV.bool x6.2.2.1.Pulled), .vs 1 (List.map PV.bool x6.2.2.1.Held)]]) rfl Try.call40 ⟨Zg rfl ((Xx ⟨.int _ _, .vs _ _, .vs _ _, .vs _ _, .vs _ _, trivial⟩)), view_agg rfl ⟨Zg rfl (.int _ _), Zl rfl (Vd rfl rfl) rfl rfl (Yh (fun _ => .int _ _)) (Vy rfl), Zl rfl (Vd rfl rfl) rfl rfl (Yh (fun _ => .int _ _)) (Vy rfl), Zl rfl (Vd rfl rfl) rfl rfl (Yh (fun _ => .bool _)) (Vy rfl), Zg rfl (.vs _ _), trivial⟩, trivial⟩ ((F_ref39_Same_ok h11 []).mono fun _ _ h => h.1) (.bool _)) rfl ?_
      refine Vz rfl rfl c9 ?_
      refine Va (Zn rfl) rfl ?_
      refine Va (Vo (congrArg PV.bool c9) rfl) rfl ?_
      refine Vg ?_
      obtain rfl := Option.some.inj hF
      refine Xv ?_
      exact Vv rfl [(0, 0)] (by decide) ⟨Vs rfl (.vs _ _), Vs rfl (.int _ _), Vs rfl (.int _ _), Yo 0 0 rfl rfl, Vs rfl (.int _ _), Vs rfl (.bool _), trivial⟩ ⟨⟨_, rfl, rfl, .same _ _ _ _ (Xt ⟨Xx ⟨.int _ _, .vs _ _, .vs _ _, .vs _ _, .vs _ _, trivial⟩, trivial⟩)⟩, trivial⟩
    ·rintro _ _ _ _ ⟨rfl, hw⟩
     refine ⟨_, _, _, hw, ?_⟩
     refine Xj rfl (fun c12 => ?_) (fun c12 => ?_)
     ·have hF := Yl c12 hF
      refine Vi ?_
      refine Ve ?_
      refine Va (Xy rfl) rfl ?_
      refine Vg ?_
      refine Xb ?_
      obtain rfl := Option.some.inj hF
      refine Xv ?_
      exact Vv rfl [] (by decide) ⟨Vs rfl (.bool _), trivial⟩ trivial
     ·have hF := Ym c12 hF
      refine Xq ?_
      refine Ve ?_
      refine Va (Vj rfl) rfl ?_
      refine Va (rd_add rfl rfl rfl) rfl ?_
      refine Va (Xa rfl) rfl ?_
      refine Vg ?_
      obtain rfl := Option.some.inj hF
      refine Xv ?_
      exact Vq ⟨rfl, rfl, rfl, rfl, rfl, trivial⟩
   ·have hF := Ym c5 hF
    refine We ?_
    obtain rfl := Option.some.inj hF
    refine Xv ?_
    exact Vq ⟨rfl, rfl, rfl, trivial⟩
  ·rcases o2 with j3 | j4
   ·replace hF := elimL hF
    rintro _ _ _ _ ⟨rfl, hw⟩
    refine ⟨_, _, _, hw, ?_⟩
    obtain rfl := Option.some.inj hF
    refine Zy ?_
    exact Vq ⟨rfl, trivial⟩
   ·replace hF := elimR hF
    rintro _ _ _ _ ⟨rfl, hw⟩
    refine ⟨_, _, _, hw, ?_⟩
    refine Vi ?_
    refine Ve ?_
    obtain ⟨x13, h14, hF⟩ := Ys hF
    refine Va (Xd rfl) rfl ?_
    refine Vk (Xk rfl Try.call12 (F_belts_Make_ok h14 _)) rfl ?_
    refine Va (rd_mvT rfl) rfl ?_
    refine Va (Xz rfl rfl) rfl ?_
    refine Va (Xz rfl rfl) rfl ?_
    refine Vk (Xe rfl rfl tz_34 rfl rfl (Nat.succ_pos _) rfl) rfl ?_
    refine Vk (Vx (p := .agg [.int .i64 x13.1.Time, .vs 1 (List.map (PV.int .i64) x13.1.States), .vs 1 (List.map (PV.int .i64) x13.1.Since), .vs 1 (List.map PV.bool x13.1.Pulled), .vs 1 (List.map PV.bool x13.1.Held)]) (e' := .agg [.int .i64 x13.1.Time, .vs 1 (List.map (PV.int .i64) x13.1.States), .vs 1 (List.map (PV.int .i64) x13.1.Since), .vs 1 (List.map PV.bool x13.1.Pulled), .vs 1 (List.map PV.bool x13.1.Held)]) rfl (Vd rfl rfl) rfl rfl ts_34 rfl (Yc rfl) rfl (Nat.le_of_ble_eq_true rfl) rfl (Xr rfl rfl)) rfl ?_
    refine Va (Xa rfl) rfl ?_
    refine Vg ?_
    refine Vi ?_
    refine Ve ?_
    obtain ⟨x15, h16, hF⟩ := Ys hF
    refine Va (Xd rfl) rfl ?_
    refine Vk (Xf (r := .tup [.agg [.int .i64 x15.1.Time, .sl (low.length + 2) 0 0 (x15.1.States).length, .sl (low.length + 3) 0 0 (x15.1.Since).length, .sl (low.length + 4) 0 0 (x15.1.Pulled).length, .vs 1 (List.map PV.bool x15.1.Held)], .int .i64 x15.2]) (os := [⟨3, 1, List.map (PV.int .i64) x15.1.States, 0⟩, ⟨3, 1, List.map (PV.int .i64) x15.1.Since, 0⟩, ⟨4, 1, List.map PV.bool x15.1.Pulled, 0⟩]) rfl Try.call21 (F_ref39_Make_ok h16 _ (Xn rfl rfl))) rfl ?_
    refine Va (rd_mvT rfl) rfl ?_
    refine Va (Xz rfl rfl) rfl ?_
    refine Va (Xz rfl rfl) rfl ?_
    refine Vk (Xe rfl rfl tz_34 rfl rfl (Nat.succ_pos _) rfl) rfl ?_
    refine Vk (Vx (p := .agg [.int .i64 x15.1.Time, .sl (low.length + 2) 0 0 (x15.1.States).length, .sl (low.length + 3) 0 0 (x15.1.Since).length, .sl (low.length + 4) 0 0 (x15.1.Pulled).length, .vs 1 (List.map PV.bool x15.1.Held)]) (e' := .agg [.int .i64 x15.1.Time, .sl (low.length + 2) 0 0 (x15.1.States).length, .sl (low.length + 3) 0 0 (x15.1.Since).length, .sl (low.length + 4) 0 0 (x15.1.Pulled).length, .vs 1 (List.map PV.bool x15.1.Held)]) rfl (Vd rfl rfl) rfl rfl ts_34 rfl (Yc rfl) rfl (Nat.le_of_ble_eq_true rfl) rfl (Xr rfl rfl)) rfl ?_
    refine Va (Xa rfl) rfl ?_
    refine Vg ?_
    refine Vi ?_
    rcases Bool.eq_false_or_eq_true (decide (x13.2 = x15.2)) with c17 | c17
    ·have hF := Yl c17 hF
     obtain ⟨x18, h19, hF⟩ := Ys hF
     rcases Bool.eq_false_or_eq_true x18 with c20 | c20
     ·have hF := Yl c20 hF
      obtain ⟨x21, h22, hF⟩ := Ys hF
      obtain ⟨x23, h24, hF⟩ := Ys hF
      rcases Bool.eq_false_or_eq_true (x21 == x23) with c25 | c25
      ·have hF := Yl c25 hF
       obtain ⟨x26, h27, hF⟩ := Ys hF
       obtain ⟨x28, h29, hF⟩ := Ys hF
       obtain ⟨x30, h31, hF⟩ := Ys hF
       refine Wb [[], [], [0, 1], [0, 1, 2], [0, 1, 2, 3], [0, 1, 2, 3], [0, 1, 2, 3, 4, 5], [0, 1, 2, 3, 4, 5, 6], [0, 1, 2, 3, 4, 5, 6, 7], [0, 1, 2, 3, 4, 5, 6, 7, 8], [0, 1, 2, 3, 4, 5, 6, 7, 8], [0, 1, 2, 3, 4, 5, 6, 7, 8, 9, 10], [0, 1, 2, 3, 4, 5, 6, 7, 8], [0, 1, 2, 3, 4, 5, 6, 7, 8], [0, 1, 2, 3, 4, 5, 6, 7, 8, 9, 10, 11, 12, 13], [0, 1, 2, 3, 4, 5, 6, 7, 8, 9, 10, 11, 12, 13, 14], [0, 1, 2, 3, 4, 5, 6, 7, 8, 9, 10, 11, 12, 13, 14, 15], [0, 1, 2, 3, 4, 5, 6, 7, 8, 9, 10, 11, 12, 13, 14, 15, 16], [0, 1, 2, 3, 4, 5, 6, 7, 8, 9, 10, 11, 12, 13, 14, 15, 16, 17], [0, 1, 2, 3, 4, 5, 6, 7, 8, 9, 10, 11, 12, 13, 14, 15, 16, 17], [0, 1, 2, 3, 4, 5, 6, 7, 8, 9, 10, 11, 12, 13, 14, 15, 16, 17, 18, 19], [0, 1, 2, 3, 4, 5, 6, 7, 8, 9, 10, 11, 12, 13, 14, 15, 16, 17], [0, 1, 2, 3, 4, 5, 6, 7, 8, 9, 10, 11, 12, 13, 14, 15, 16, 17], [0, 1, 2, 3, 4, 5, 6, 7, 8, 9, 10, 11, 12, 13, 14, 15, 16, 17, 18, 19, 20, 21, 22], [0, 1, 2, 3, 4, 5, 6, 7, 8, 9, 10, 11, 12, 13, 14, 15, 16, 17, 18, 19, 20, 21, 22, 23], [0, 1, 2, 3, 4, 5, 6, 7, 8, 9, 10, 11, 12, 13, 14, 15, 16, 17, 18, 19, 20, 21, 22, 23, 24], [0, 1, 2, 3, 4, 5, 6, 7, 8, 9, 10, 11, 12, 13, 14, 15, 16, 17, 18, 19, 20, 21, 22, 23, 24, 25]] [false, false, false, false, false, false, false, false, false, false, false, false, false, false, false, false, false, false, false, false, false, false, false, true, false, false, false] [(low, [⟨34, 5, [.agg [.int .i64 p1.Time, .vs 1 (List.map (PV.int .i64) p1.States), .vs 1 (List.map (PV.int .i64) p1.Since), .vs 1 (List.map PV.bool p1.Pulled), .vs 1 (List.map PV.bool p1.Held)]], 0⟩, ⟨34, 5, [.agg [.int .i64 x13.1.Time, .vs 1 (List.map (PV.int .i64) x13.1.States), .vs 1 (List.map (PV.int .i64) x13.1.Since), .vs 1 (List.map PV.bool x13.1.Pulled), .vs 1 (List.map PV.bool x13.1.Held)]], 0⟩, ⟨3, 1, List.map (PV.int .i64) x15.1.States, 0⟩, ⟨3, 1, List.map (PV.int .i64) x15.1.Since, 0⟩, ⟨4, 1, List.map PV.bool x15.1.Pulled, 0⟩, ⟨34, 5, [.agg [.int .i64 x15.1.Time, .sl (low.length + 2) 0 0 (x15.1.States).length, .sl (low.length + 3) 0 0 (x15.1.Since).length, .sl (low.length + 4) 0 0 (x15.1.Pulled).length, .vs 1 (List.map PV.bool x15.1.Held)]], 0⟩]), (low, [⟨34, 5, [.agg [.int .i64 p1.Time, .vs 1 (List.map (PV.int .i64) p1.States), .vs 1 (List.map (PV.int .i64) p1.Since), .vs 1 (List.map PV.bool p1.Pulled), .vs 1 (List.map PV.bool p1.Held)]], 0⟩, ⟨34, 5, [.agg [.int .i64 x13.1.Time, .vs 1 (List.map (PV.int .i64) x13.1.States), .vs 1 (List.map (PV.int .i64) x13.1.Since), .vs 1 (List.map PV.bool x13.1.Pulled), .vs 1 (List.map PV.bool x13.1.Held)]], 0⟩, ⟨3, 1, List.map (PV.int .i64) x15.1.States, 0⟩, ⟨3, 1, List.map (PV.int .i64) x15.1.Since, 0⟩, ⟨4, 1, List.map PV.bool x15.1.Pulled, 0⟩, ⟨34, 5, [.agg [.int .i64 x15.1.Time, .sl (low.length + 2) 0 0 (x15.1.States).length, .sl (low.length + 3) 0 0 (x15.1.Since).length, .sl (low.length + 4) 0 0 (x15.1.Pulled).length, .vs 1 (List.map PV.bool x15.1.Held)]], 0⟩, ⟨3, 1, List.map (PV.int .i64) x28, 0⟩])] mixed (by kernel_rfl) rfl (lenAll (Yg rfl (Yg rfl Zt))) rfl _ rfl rfl ?_
       refine Yn rfl rfl (Vj rfl) ?_
       refine Yn rfl rfl (Vj rfl) ?_
       refine Yn rfl rfl (Xm rfl rfl) ?_
       refine Yn rfl rfl (Vm rfl) ?_
       refine Zk rfl rfl rfl rfl c17 (Vu (ds := [.int .i64 x13.1.Time, .vs 1 (List.map (PV.int .i64) x13.1.States), .vs 1 (List.map (PV.int .i64) x13.1.Since), .vs 1 (List.map PV.bool x13.1.Pulled), .vs 1 (List.map PV.bool x13.1.Held)]) rfl (Vd rfl rfl) rfl ta_34 ts_34 rfl rfl rfl) ?_
       refine Zk rfl rfl rfl rfl c17 (Vu (ds := [.int .i64 x15.1.Time, .sl (low.length + 2) 0 0 (x15.1.States).length, .sl (low.length + 3) 0 0 (x15.1.Since).length, .sl (low.length + 4) 0 0 (x15.1.Pulled).length, .vs 1 (List.map PV.bool x15.1.Held)]) rfl (Vd rfl rfl) rfl ta_34 ts_34 rfl rfl rfl) ?_
       refine Wf _ rfl rfl rfl (congrArg PV.bool c17) (Yg (nt_of (vef_callB (vs := [.agg [.int .i64 x13.1.Time, .vs 1 (List.map (PV.int .i64) x13.1.States), .vs 1 (List.map (PV.int .i64) x13.1.Since), .vs 1 (List.map PV.bool x13.1.Pulled), .vs 1 (List.map PV.bool x13.1.Held)], .agg [.int .i64 x15.1.Time, .vs 1 (List.map (PV.int .i64) x15.1.States), .vs 1 (List.map (PV.int .i64) x15.1.Since), .vs 1 (List.map PV.bool x15.1.Pulled), .vs 1 (List.map PV.bool x15.1.Held)]]) rfl Try.call40 ⟨Zg rfl ((Xx ⟨.int _ _, .vs _ _, .vs _ _, .vs _ _, .vs _ _, trivial⟩)), view_agg rfl ⟨Zg rfl (.int _ _), Zl rfl (Vd rfl rfl) rfl rfl (Yh (fun _ => .int _ _)) (Vy rfl), Zl rfl (Vd rfl rfl) rfl rfl (Yh (fun _ => .int _ _)) (Vy rfl), Zl rfl (Vd rfl rfl) rfl rfl (Yh (fun _ => .bool _)) (Vy rfl), Zg rfl (.vs _ _), trivial⟩, trivial⟩ ((F_ref39_Same_ok h19 []).mono fun _ _ h => h.1) (.bool _))) Zt) ?_
       refine Yn rfl rfl (Vp (congrArg PV.bool c17) rfl) ?_
       refine Yn rfl rfl (Vm rfl) ?_
       refine Zk rfl rfl rfl rfl c20 (Xd rfl) ?_
       refine Zk rfl rfl rfl rfl c20 (Vu (ds := [.int .i64 p1.Time, .vs 1 (List.map (PV.int .i64) p1.States), .vs 1 (List.map (PV.int .i64) p1.Since), .vs 1 (List.map PV.bool p1.Pulled), .vs 1 (List.map PV.bool p1.Held)]) rfl (Vd rfl rfl) rfl ta_34 ts_34 rfl rfl rfl) ?_
       refine Wf _ rfl rfl rfl (congrArg PV.bool c20) (Yg (nt_of (Xk rfl Try.call28 (F_belts_Valid_ok h22 _))) Zt) ?_
       refine Zk rfl rfl rfl rfl c20 (Xd rfl) ?_
       refine Zk rfl rfl rfl rfl c20 (Vu (ds := [.int .i64 p1.Time, .vs 1 (List.map (PV.int .i64) p1.States), .vs 1 (List.map (PV.int .i64) p1.Since), .vs 1 (List.map PV.bool p1.Pulled), .vs 1 (List.map PV.bool p1.Held)]) rfl (Vd rfl rfl) rfl ta_34 ts_34 rfl rfl rfl) ?_
       refine Wf _ rfl rfl rfl (congrArg PV.bool c20) (Yg (nt_of (Xk rfl Try.call41 (F_ref39_Valid_ok h24 _))) Zt) ?_
       refine Zk rfl rfl rfl rfl c20 (rd_eqlB rfl rfl tbo_4) ?_
       refine Yn rfl rfl (Vp (congrArg PV.bool c20) rfl) ?_
       refine Yn rfl rfl (Vm rfl) ?_
       refine Zk rfl rfl rfl rfl c25 (Xd rfl) ?_
       refine Zk rfl rfl rfl rfl c25 (Vj rfl) ?_
       refine Wf _ rfl rfl rfl (congrArg PV.bool c25) (Yg (nt_of (Xk rfl Try.call16 (F_belts_Above_ok h27 _))) Zt) ?_
       refine Zk rfl rfl rfl rfl c25 (Xd rfl) ?_
       refine Zk rfl rfl rfl rfl c25 (Vj rfl) ?_
       refine dops_efT rfl rfl (congrArg PV.bool c25) rfl rfl (Xf (r := .sl (low.length + 6) 0 0 (x28).length) (os := [⟨3, 1, List.map (PV.int .i64) x28, 0⟩]) rfl Try.call43 (F_ref39_Above_ok h29 _ (Xn rfl rfl))) ?_
       refine Wf _ rfl rfl rfl (congrArg PV.bool c25) (Yg (nt_of (vef_callB (vs := [.vs 1 (List.map (PV.int .i64) x26), .vs 1 (List.map (PV.int .i64) x28)]) rfl Try.call42 ⟨Zg rfl (.vs _ _), Zl rfl (Vd rfl rfl) rfl rfl (Yh (fun _ => .int _ _)) (Vy rfl), trivial⟩ ((F_ref23_SameInts_ok h31 []).mono fun _ _ h => h.1) (.bool _))) Zt) ?_
       refine Yn rfl rfl (Vp (congrArg PV.bool c25) rfl) ?_
       refine Yn rfl rfl (Xy rfl) ?_
       refine Yz ?_
       refine Xb ?_
       obtain rfl := Option.some.inj hF
       refine Zy ?_
       exact Vv rfl [] (by decide) ⟨Vs rfl (.bool _), trivial⟩ trivial
      ·have hF := Ym c25 hF
       refine Zf [[], [], [0, 1], [0, 1, 2], [0, 1, 2, 3], [0, 1, 2, 3], [0, 1, 2, 3, 4, 5], [0, 1, 2, 3, 4, 5, 6], [0, 1, 2, 3, 4, 5, 6, 7], [0, 1, 2, 3, 4, 5, 6, 7, 8], [0, 1, 2, 3, 4, 5, 6, 7, 8], [0, 1, 2, 3, 4, 5, 6, 7, 8, 9, 10], [0, 1, 2, 3, 4, 5, 6, 7, 8], [0, 1, 2, 3, 4, 5, 6, 7, 8], [0, 1, 2, 3, 4, 5, 6, 7, 8, 9, 10, 11, 12, 13], [0, 1, 2, 3, 4, 5, 6, 7, 8, 9, 10, 11, 12, 13, 14], [0, 1, 2, 3, 4, 5, 6, 7, 8, 9, 10, 11, 12, 13, 14, 15], [0, 1, 2, 3, 4, 5, 6, 7, 8, 9, 10, 11, 12, 13, 14, 15, 16], [0, 1, 2, 3, 4, 5, 6, 7, 8, 9, 10, 11, 12, 13, 14, 15, 16, 17], [0, 1, 2, 3, 4, 5, 6, 7, 8, 9, 10, 11, 12, 13, 14, 15, 16, 17], [0, 1, 2, 3, 4, 5, 6, 7, 8, 9, 10, 11, 12, 13, 14, 15, 16, 17, 18, 19], [0, 1, 2, 3, 4, 5, 6, 7, 8, 9, 10, 11, 12, 13, 14, 15, 16, 17], [0, 1, 2, 3, 4, 5, 6, 7, 8, 9, 10, 11, 12, 13, 14, 15, 16, 17], [0, 1, 2, 3, 4, 5, 6, 7, 8, 9, 10, 11, 12, 13, 14, 15, 16, 17, 18, 19, 20, 21, 22], [0, 1, 2, 3, 4, 5, 6, 7, 8, 9, 10, 11, 12, 13, 14, 15, 16, 17, 18, 19, 20, 21, 22, 23], [0, 1, 2, 3, 4, 5, 6, 7, 8, 9, 10, 11, 12, 13, 14, 15, 16, 17, 18, 19, 20, 21, 22, 23, 24], [0, 1, 2, 3, 4, 5, 6, 7, 8, 9, 10, 11, 12, 13, 14, 15, 16, 17, 18, 19, 20, 21, 22, 23, 24, 25]] mixed (by kernel_rfl) rfl ?_
       refine Yn rfl rfl (Vj rfl) ?_
       refine Yn rfl rfl (Vj rfl) ?_
       refine Yn rfl rfl (Xm rfl rfl) ?_
       refine Yn rfl rfl (Vm rfl) ?_
       refine Zk rfl rfl rfl rfl c17 (Vu (ds := [.int .i64 x13.1.Time, .vs 1 (List.map (PV.int .i64) x13.1.States), .vs 1 (List.map (PV.int .i64) x13.1.Since), .vs 1 (List.map PV.bool x13.1.Pulled), .vs 1 (List.map PV.bool x13.1.Held)]) rfl (Vd rfl rfl) rfl ta_34 ts_34 rfl rfl rfl) ?_
       refine Zk rfl rfl rfl rfl c17 (Vu (ds := [.int .i64 x15.1.Time, .sl (low.length + 2) 0 0 (x15.1.States).length, .sl (low.length + 3) 0 0 (x15.1.Since).length, .sl (low.length + 4) 0 0 (x15.1.Pulled).length, .vs 1 (List.map PV.bool x15.1.Held)]) rfl (Vd rfl rfl) rfl ta_34 ts_34 rfl rfl rfl) ?_
       refine Wf _ rfl rfl rfl (congrArg PV.bool c17) (Yg (nt_of (vef_callB (vs := [.agg [.int .i64 x13.1.Time, .vs 1 (List.map (PV.int .i64) x13.1.States), .vs 1 (List.map (PV.int .i64) x13.1.Since), .vs 1 (List.map PV.bool x13.1.Pulled), .vs 1 (List.map PV.bool x13.1.Held)], .agg [.int .i64 x15.1.Time, .vs 1 (List.map (PV.int .i64) x15.1.States), .vs 1 (List.map (PV.int .i64) x15.1.Since), .vs 1 (List.map PV.bool x15.1.Pulled), .vs 1 (List.map PV.bool x15.1.Held)]]) rfl Try.call40 ⟨Zg rfl ((Xx ⟨.int _ _, .vs _ _, .vs _ _, .vs _ _, .vs _ _, trivial⟩)), view_agg rfl ⟨Zg rfl (.int _ _), Zl rfl (Vd rfl rfl) rfl rfl (Yh (fun _ => .int _ _)) (Vy rfl), Zl rfl (Vd rfl rfl) rfl rfl (Yh (fun _ => .int _ _)) (Vy rfl), Zl rfl (Vd rfl rfl) rfl rfl (Yh (fun _ => .bool _)) (Vy rfl), Zg rfl (.vs _ _), trivial⟩, trivial⟩ ((F_ref39_Same_ok h19 []).mono fun _ _ h => h.1) (.bool _))) Zt) ?_
       refine Yn rfl rfl (Vp (congrArg PV.bool c17) rfl) ?_
       refine Yn rfl rfl (Vm rfl) ?_
       refine Zk rfl rfl rfl rfl c20 (Xd rfl) ?_
       refine Zk rfl rfl rfl rfl c20 (Vu (ds := [.int .i64 p1.Time, .vs 1 (List.map (PV.int .i64) p1.States), .vs 1 (List.map (PV.int .i64) p1.Since), .vs 1 (List.map PV.bool p1.Pulled), .vs 1 (List.map PV.bool p1.Held)]) rfl (Vd rfl rfl) rfl ta_34 ts_34 rfl rfl rfl) ?_
       refine Wf _ rfl rfl rfl (congrArg PV.bool c20) (Yg (nt_of (Xk rfl Try.call28 (F_belts_Valid_ok h22 _))) Zt) ?_
       refine Zk rfl rfl rfl rfl c20 (Xd rfl) ?_
       refine Zk rfl rfl rfl rfl c20 (Vu (ds := [.int .i64 p1.Time, .vs 1 (List.map (PV.int .i64) p1.States), .vs 1 (List.map (PV.int .i64) p1.Since), .vs 1 (List.map PV.bool p1.Pulled), .vs 1 (List.map PV.bool p1.Held)]) rfl (Vd rfl rfl) rfl ta_34 ts_34 rfl rfl rfl) ?_
       refine Wf _ rfl rfl rfl (congrArg PV.bool c20) (Yg (nt_of (Xk rfl Try.call41 (F_ref39_Valid_ok h24 _))) Zt) ?_
       refine Zk rfl rfl rfl rfl c20 (rd_eqlB rfl rfl tbo_4) ?_
       refine Yn rfl rfl (Vp (congrArg PV.bool c20) rfl) ?_
       refine Yn rfl rfl (Vm rfl) ?_
       refine Vn rfl rfl rfl (Zm c25) ?_
       refine Vn rfl rfl rfl (Zm c25) ?_
       refine Vn rfl rfl rfl (Zm c25) ?_
       refine Vn rfl rfl rfl (Zm c25) ?_
       refine Vn rfl rfl rfl (Zm c25) ?_
       refine Vn rfl rfl rfl (Zm c25) ?_
       refine Vn rfl rfl rfl (Zm c25) ?_
       refine Yn rfl rfl (Vo (congrArg PV.bool c25) rfl) ?_
       refine Yn rfl rfl (Xy rfl) ?_
       refine Yz ?_
       refine Xb ?_
       obtain rfl := Option.some.inj hF
       refine Zy ?_
       exact Vv rfl [] (by decide) ⟨Vs rfl (.bool _), trivial⟩ trivial
     ·have hF := Ym c20 hF
      refine Zf [[], [], [0, 1], [0, 1, 2], [0, 1, 2, 3], [0, 1, 2, 3], [0, 1, 2, 3, 4, 5], [0, 1, 2, 3, 4, 5, 6], [0, 1, 2, 3, 4, 5, 6, 7], [0, 1, 2, 3, 4, 5, 6, 7, 8], [0, 1, 2, 3, 4, 5, 6, 7, 8], [0, 1, 2, 3, 4, 5, 6, 7, 8, 9, 10], [0, 1, 2, 3, 4, 5, 6, 7, 8], [0, 1, 2, 3, 4, 5, 6, 7, 8], [0, 1, 2, 3, 4, 5, 6, 7, 8, 9, 10, 11, 12, 13], [0, 1, 2, 3, 4, 5, 6, 7, 8, 9, 10, 11, 12, 13, 14], [0, 1, 2, 3, 4, 5, 6, 7, 8, 9, 10, 11, 12, 13, 14, 15], [0, 1, 2, 3, 4, 5, 6, 7, 8, 9, 10, 11, 12, 13, 14, 15, 16], [0, 1, 2, 3, 4, 5, 6, 7, 8, 9, 10, 11, 12, 13, 14, 15, 16, 17], [0, 1, 2, 3, 4, 5, 6, 7, 8, 9, 10, 11, 12, 13, 14, 15, 16, 17], [0, 1, 2, 3, 4, 5, 6, 7, 8, 9, 10, 11, 12, 13, 14, 15, 16, 17, 18, 19], [0, 1, 2, 3, 4, 5, 6, 7, 8, 9, 10, 11, 12, 13, 14, 15, 16, 17], [0, 1, 2, 3, 4, 5, 6, 7, 8, 9, 10, 11, 12, 13, 14, 15, 16, 17], [0, 1, 2, 3, 4, 5, 6, 7, 8, 9, 10, 11, 12, 13, 14, 15, 16, 17, 18, 19, 20, 21, 22], [0, 1, 2, 3, 4, 5, 6, 7, 8, 9, 10, 11, 12, 13, 14, 15, 16, 17, 18, 19, 20, 21, 22, 23], [0, 1, 2, 3, 4, 5, 6, 7, 8, 9, 10, 11, 12, 13, 14, 15, 16, 17, 18, 19, 20, 21, 22, 23, 24], [0, 1, 2, 3, 4, 5, 6, 7, 8, 9, 10, 11, 12, 13, 14, 15, 16, 17, 18, 19, 20, 21, 22, 23, 24, 25]] mixed (by kernel_rfl) rfl ?_
      refine Yn rfl rfl (Vj rfl) ?_
      refine Yn rfl rfl (Vj rfl) ?_
      refine Yn rfl rfl (Xm rfl rfl) ?_
      refine Yn rfl rfl (Vm rfl) ?_
      refine Zk rfl rfl rfl rfl c17 (Vu (ds := [.int .i64 x13.1.Time, .vs 1 (List.map (PV.int .i64) x13.1.States), .vs 1 (List.map (PV.int .i64) x13.1.Since), .vs 1 (List.map PV.bool x13.1.Pulled), .vs 1 (List.map PV.bool x13.1.Held)]) rfl (Vd rfl rfl) rfl ta_34 ts_34 rfl rfl rfl) ?_
      refine Zk rfl rfl rfl rfl c17 (Vu (ds := [.int .i64 x15.1.Time, .sl (low.length + 2) 0 0 (x15.1.States).length, .sl (low.length + 3) 0 0 (x15.1.Since).length, .sl (low.length + 4) 0 0 (x15.1.Pulled).length, .vs 1 (List.map PV.bool x15.1.Held)]) rfl (Vd rfl rfl) rfl ta_34 ts_34 rfl rfl rfl) ?_
      refine Wf _ rfl rfl rfl (congrArg PV.bool c17) (Yg (nt_of (vef_callB (vs := [.agg [.int .i64 x13.1.Time, .vs 1 (List.map (PV.int .i64) x13.1.States), .vs 1 (List.map (PV.int .i64) x13.1.Since), .vs 1 (List.map PV.bool x13.1.Pulled), .vs 1 (List.map PV.bool x13.1.Held)], .agg [.int .i64 x15.1.Time, .vs 1 (List.map (PV.int .i64) x15.1.States), .vs 1 (List.map (PV.int .i64) x15.1.Since), .vs 1 (List.map PV.bool x15.1.Pulled), .vs 1 (List.map PV.bool x15.1.Held)]]) rfl Try.call40 ⟨Zg rfl ((Xx ⟨.int _ _, .vs _ _, .vs _ _, .vs _ _, .vs _ _, trivial⟩)), view_agg rfl ⟨Zg rfl (.int _ _), Zl rfl (Vd rfl rfl) rfl rfl (Yh (fun _ => .int _ _)) (Vy rfl), Zl rfl (Vd rfl rfl) rfl rfl (Yh (fun _ => .int _ _)) (Vy rfl), Zl rfl (Vd rfl rfl) rfl rfl (Yh (fun _ => .bool _)) (Vy rfl), Zg rfl (.vs _ _), trivial⟩, trivial⟩ ((F_ref39_Same_ok h19 []).mono fun _ _ h => h.1) (.bool _))) Zt) ?_
      refine Yn rfl rfl (Vp (congrArg PV.bool c17) rfl) ?_
      refine Yn rfl rfl (Vm rfl) ?_
      refine Vn rfl rfl rfl (Zm c20) ?_
      refine Vn rfl rfl rfl (Zm c20) ?_
      refine Vn rfl rfl rfl (Zm c20) ?_
      refine Vn rfl rfl rfl (Zm c20) ?_
      refine Vn rfl rfl rfl (Zm c20) ?_
      refine Vn rfl rfl rfl (Zm c20) ?_
      refine Vn rfl rfl rfl (Zm c20) ?_
      refine Yn rfl rfl (Vo (congrArg PV.bool c20) rfl) ?_
      refine Yn rfl rfl (Vm rfl) ?_
      refine Vn rfl rfl rfl (by decide) ?_
      refine Vn rfl rfl rfl (by decide) ?_
      refine Vn rfl rfl rfl (by decide) ?_
      refine Vn rfl rfl rfl (by decide) ?_
      refine Vn rfl rfl rfl (by decide) ?_
      refine Vn rfl rfl rfl (by decide) ?_
      refine Vn rfl rfl rfl (by decide) ?_
      refine Yn rfl rfl (Vo rfl rfl) ?_
      refine Yn rfl rfl (Xy rfl) ?_
      refine Yz ?_
      refine Xb ?_
      obtain rfl := Option.some.inj hF
      refine Zy ?_
      exact Vv rfl [] (by decide) ⟨Vs rfl (.bool _), trivial⟩ trivial
    ·have hF := Ym c17 hF
     refine Zf [[], [], [0, 1], [0, 1, 2], [0, 1, 2, 3], [0, 1, 2, 3], [0, 1, 2, 3, 4, 5], [0, 1, 2, 3, 4, 5, 6], [0, 1, 2, 3, 4, 5, 6, 7], [0, 1, 2, 3, 4, 5, 6, 7, 8], [0, 1, 2, 3, 4, 5, 6, 7, 8], [0, 1, 2, 3, 4, 5, 6, 7, 8, 9, 10], [0, 1, 2, 3, 4, 5, 6, 7, 8], [0, 1, 2, 3, 4, 5, 6, 7, 8], [0, 1, 2, 3, 4, 5, 6, 7, 8, 9, 10, 11, 12, 13], [0, 1, 2, 3, 4, 5, 6, 7, 8, 9, 10, 11, 12, 13, 14], [0, 1, 2, 3, 4, 5, 6, 7, 8, 9, 10, 11, 12, 13, 14, 15], [0, 1, 2, 3, 4, 5, 6, 7, 8, 9, 10, 11, 12, 13, 14, 15, 16], [0, 1, 2, 3, 4, 5, 6, 7, 8, 9, 10, 11, 12, 13, 14, 15, 16, 17], [0, 1, 2, 3, 4, 5, 6, 7, 8, 9, 10, 11, 12, 13, 14, 15, 16, 17], [0, 1, 2, 3, 4, 5, 6, 7, 8, 9, 10, 11, 12, 13, 14, 15, 16, 17, 18, 19], [0, 1, 2, 3, 4, 5, 6, 7, 8, 9, 10, 11, 12, 13, 14, 15, 16, 17], [0, 1, 2, 3, 4, 5, 6, 7, 8, 9, 10, 11, 12, 13, 14, 15, 16, 17], [0, 1, 2, 3, 4, 5, 6, 7, 8, 9, 10, 11, 12, 13, 14, 15, 16, 17, 18, 19, 20, 21, 22], [0, 1, 2, 3, 4, 5, 6, 7, 8, 9, 10, 11, 12, 13, 14, 15, 16, 17, 18, 19, 20, 21, 22, 23], [0, 1, 2, 3, 4, 5, 6, 7, 8, 9, 10, 11, 12, 13, 14, 15, 16, 17, 18, 19, 20, 21, 22, 23, 24], [0, 1, 2, 3, 4, 5, 6, 7, 8, 9, 10, 11, 12, 13, 14, 15, 16, 17, 18, 19, 20, 21, 22, 23, 24, 25]] mixed (by kernel_rfl) rfl ?_
     refine Yn rfl rfl (Vj rfl) ?_
     refine Yn rfl rfl (Vj rfl) ?_
     refine Yn rfl rfl (Xm rfl rfl) ?_
     refine Yn rfl rfl (Vm rfl) ?_
     refine Vn rfl rfl rfl (Zm c17) ?_
     refine Vn rfl rfl rfl (Zm c17) ?_
     refine Vn rfl rfl rfl (Zm c17) ?_
     refine Yn rfl rfl (Vo (congrArg PV.bool c17) rfl) ?_
     refine Yn rfl rfl (Vm rfl) ?_
     refine Vn rfl rfl rfl (by decide) ?_
     refine Vn rfl rfl rfl (by decide) ?_
     refine Vn rfl rfl rfl (by decide) ?_
     refine Vn rfl rfl rfl (by decide) ?_
     refine Vn rfl rfl rfl (by decide) ?_
     refine Vn rfl rfl rfl (by decide) ?_
     refine Vn rfl rfl rfl (by decide) ?_
     refine Yn rfl rfl (Vo rfl rfl) ?_
     refine Yn rfl rfl (Vm rfl) ?_
     refine Vn rfl rfl rfl (by decide) ?_
     refine Vn rfl rfl rfl (by decide) ?_
     refine Vn rfl rfl rfl (by decide) ?_
     refine Vn rfl rfl rfl (by decide) ?_
     refine Vn rfl rfl rfl (by decide) ?_
     refine Vn rfl rfl rfl (by decide) ?_
     refine Vn rfl rfl rfl (by decide) ?_
     refine Yn rfl rfl (Vo rfl rfl) ?_
     refine Yn rfl rfl (Xy rfl) ?_
     refine Yz ?_
     refine Xb ?_
     obtain rfl := Option.some.inj hF
     refine Zy ?_
     exact Vv rfl [] (by decide) ⟨Vs rfl (.bool _), trivial⟩ trivial
 ·rintro _ _ _ _ ⟨he, hw⟩
  refine ⟨_, _, _, hw, ?_⟩
  exact Ze he [.bool r] ⟨rfl, trivial⟩ (.bool _) ⟨rfl, rfl⟩

theorem F_law39_BeltsRaw_ok {p0 : List T_Belt} {p1 : T_Line} {p2 : A2_Int} {r : Bool} (hF : F_law39_BeltsRaw p0 p1 p2 = some r) (low : List AObj) :
    Yv Try.prog 4 [.vs 2 (List.map T_Belt.enc p0), .agg [.int .i64 p1.Time, .vs 1 (List.map (PV.int .i64) p1.States), .vs 1 (List.map (PV.int .i64) p1.Since), .vs 1 (List.map PV.bool p1.Pulled), .vs 1 (List.map PV.bool p1.Held)], .agg [.int .i64 p2.a0, .int .i64 p2.a1]] low fun x low' => x = .bool r ∧ low' = low := by
 refine Xc (nt := 57) (rs := [.tmp 6]) Try.func4 rfl rfl (Nat.le_of_ble_eq_true rfl) rfl ?_
 refine Vw (Q' := FnE (fun E' lw lc => Ya E' lw lc [(6, .bool r)] low [])) ?_ ?_
 ·unfold F_law39_BeltsRaw at hF
  refine Vi ?_
  refine Ve ?_
  refine Vk (Yw rfl rfl (v := .agg [.int .i64 p1.Time, .vs 1 (List.map (PV.int .i64) p1.States), .vs 1 (List.map (PV.int .i64) p1.Since), .vs 1 (List.map PV.bool p1.Pulled), .vs 1 (List.map PV.bool p1.Held)]) rfl rfl (Nat.succ_pos _) rfl rfl) rfl ?_
  refine Vk (Yw rfl rfl (v := .agg [.int .i64 p2.a0, .int .i64 p2.a1]) rfl rfl (Nat.succ_pos _) rfl rfl) rfl ?_
  refine Va (Xy rfl) rfl ?_
  refine Vg ?_
  refine Vi ?_
  refine Vi ?_
  obtain ⟨o1, ho1, hF⟩ := Ys hF
  refine Vw (Q' := (fun o1 => OnlyE .normal (fun E' lw lc => Ya E' lw lc [(0, .vs 2 (List.map T_Belt.enc p0)), (4, .ptr (low.length + 0) 0 0 0), (5, .ptr (low.length + 1) 0 0 0), (33, .bool o1)] low [⟨34, 5, [.agg [.int .i64 p1.Time, .vs 1 (List.map (PV.int .i64) p1.States), .vs 1 (List.map (PV.int .i64) p1.Since), .vs 1 (List.map PV.bool p1.Pulled), .vs 1 (List.map PV.bool p1.Held)]], 0⟩, ⟨41, 2, [.agg [.int .i64 p2.a0, .int .i64 p2.a1]], 0⟩])) o1) ?_ ?_
  ·replace hF := ho1
   refine Ve ?_
   rcases Bool.eq_false_or_eq_true (decide (40 < ((p0).length : Int))) with c2 | c2
   ·have hF := Yl c2 hF
    refine Va (Xd rfl) rfl ?_
    refine Va (Xi (Xo rfl rfl te_27) (congrArg (fun n : Nat => PV.int .i64 (n : Int)) (List.length_map _))) rfl ?_
    refine Va (rd_gtr rfl rfl) rfl ?_
    refine Va (Vm rfl) rfl ?_
    refine Vb rfl rfl (Zh c2) rfl ?_
    refine Vb rfl rfl (Zh c2) rfl ?_
    refine Vb rfl rfl (Zh c2) rfl ?_
    refine Vb rfl rfl (Zh c2) rfl ?_
    refine Va (Vp (congrArg PV.bool c2) rfl) rfl ?_
    refine Va (Vm rfl) rfl ?_
    refine Vb rfl rfl (by decide) rfl ?_
    refine Vb rfl rfl (by decide) rfl ?_
    refine Vb rfl rfl (by decide) rfl ?_
    refine Vb rfl rfl (by decide) rfl ?_
    refine Va (Vp rfl rfl) rfl ?_
    refine Va (Vm rfl) rfl ?_
    refine Vb rfl rfl (by decide) rfl ?_
    refine Vb rfl rfl (by decide) rfl ?_
    refine Vb rfl rfl (by decide) rfl ?_
    refine Vb rfl rfl (by decide) rfl ?_
    refine Va (Vp rfl rfl) rfl ?_
    refine Va (Vm rfl) rfl ?_
    refine Vb rfl rfl (by decide) rfl ?_
    refine Vb rfl rfl (by decide) rfl ?_
    refine Vb rfl rfl (by decide) rfl ?_
    refine Vb rfl rfl (by decide) rfl ?_
    refine Va (Vp rfl rfl) rfl ?_
    refine Vg ?_
    obtain rfl := Option.some.inj hF
    refine Xv ?_
    exact Vq ⟨rfl, rfl, rfl, rfl, trivial⟩
   ·have hF := Ym c2 hF
    rcases Bool.eq_false_or_eq_true (decide (40 < ((p1.States).length : Int))) with c3 | c3
    ·have hF := Yl c3 hF
     refine Va (Xd rfl) rfl ?_
     refine Va (Xi (Xo rfl rfl te_27) (congrArg (fun n : Nat => PV.int .i64 (n : Int)) (List.length_map _))) rfl ?_
     refine Va (rd_gtr rfl rfl) rfl ?_
     refine Va (Vm rfl) rfl ?_
     refine Vz rfl rfl c2 ?_
     refine Va (Vc rfl tf_34_1 ts_22 (by decide)) rfl ?_
     refine Vz rfl rfl c2 ?_
     refine Va (Vf rfl (Vd rfl rfl) rfl ta_22 rfl) rfl ?_
     refine Vz rfl rfl c2 ?_
     refine Va (Xi (Xo rfl rfl te_22) (congrArg (fun n : Nat => PV.int .i64 (n : Int)) (List.length_map _))) rfl ?_
     refine Vz rfl rfl c2 ?_
     refine Va (rd_gtr rfl rfl) rfl ?_
     refine Va (Vo (congrArg PV.bool c2) rfl) rfl ?_
     refine Va (Vm rfl) rfl ?_
     refine Vb rfl rfl (Zh c3) rfl ?_
     refine Vb rfl rfl (Zh c3) rfl ?_
     refine Vb rfl rfl (Zh c3) rfl ?_
     refine Vb rfl rfl (Zh c3) rfl ?_
     refine Va (Vp (congrArg PV.bool c3) rfl) rfl ?_
     refine Va (Vm rfl) rfl ?_
     refine Vb rfl rfl (by decide) rfl ?_
     refine Vb rfl rfl (by decide) rfl ?_
     refine Vb rfl rfl (by decide) rfl ?_
     refine Vb rfl rfl (by decide) rfl ?_
     refine Va (Vp rfl rfl) rfl ?_
     refine Va (Vm rfl) rfl ?_
     refine Vb rfl rfl (by decide) rfl ?_
     refine Vb rfl rfl (by decide) rfl ?_
     refine Vb rfl rfl (by decide) rfl ?_
     refine Vb rfl rfl (by decide) rfl ?_
     refine Va (Vp rfl rfl) rfl ?_
     refine Vg ?_
     obtain rfl := Option.some.inj hF
     refine Xv ?_
     exact Vq ⟨rfl, rfl, rfl, rfl, trivial⟩
    ·have hF := Ym c3 hF
     rcases Bool.eq_false_or_eq_true (decide (40 < ((p1.Since).length : Int))) with c4 | c4
     ·have hF := Yl c4 hF
      refine Va (Xd rfl) rfl ?_
      refine Va (Xi (Xo rfl rfl te_27) (congrArg (fun n : Nat => PV.int .i64 (n : Int)) (List.length_map _))) rfl ?_
      refine Va (rd_gtr rfl rfl) rfl ?_
      refine Va (Vm rfl) rfl ?_
      refine Vz rfl rfl c2 ?_
      refine Va (Vc rfl tf_34_1 ts_22 (by decide)) rfl ?_
      refine Vz rfl rfl c2 ?_
      refine Va (Vf rfl (Vd rfl rfl) rfl ta_22 rfl) rfl ?_
      refine Vz rfl rfl c2 ?_
      refine Va (Xi (Xo rfl rfl te_22) (congrArg (fun n : Nat => PV.int .i64 (n : Int)) (List.length_map _))) rfl ?_
      refine Vz rfl rfl c2 ?_
      refine Va (rd_gtr rfl rfl) rfl ?_
      refine Va (Vo (congrArg PV.bool c2) rfl) rfl ?_
      refine Va (Vm rfl) rfl ?_
      refine Vz rfl rfl c3 ?_
      refine Va (Vc rfl tf_34_2 ts_22 (by decide)) rfl ?_
      refine Vz rfl rfl c3 ?_
      refine Va (Vf rfl (Vd rfl rfl) rfl ta_22 rfl) rfl ?_
      refine Vz rfl rfl c3 ?_
      refine Va (Xi (Xo rfl rfl te_22) (congrArg (fun n : Nat => PV.int .i64 (n : Int)) (List.length_map _))) rfl ?_
      refine Vz rfl rfl c3 ?_
      refine Va (rd_gtr rfl rfl) rfl ?_
      refine Va (Vo (congrArg PV.bool c3) rfl) rfl ?_
      refine Va (Vm rfl) rfl ?_
      refine Vb rfl rfl (Zh c4) rfl ?_
      refine Vb rfl rfl (Zh c4) rfl ?_
      refine Vb rfl rfl (Zh c4) rfl ?_
      refine Vb rfl rfl (Zh c4) rfl ?_
      refine Va (Vp (congrArg PV.bool c4) rfl) rfl ?_
      refine Va (Vm rfl) rfl ?_
      refine Vb rfl rfl (by decide) rfl ?_
      refine Vb rfl rfl (by decide) rfl ?_
      refine Vb rfl rfl (by decide) rfl ?_
      refine Vb rfl rfl (by decide) rfl ?_
      refine Va (Vp rfl rfl) rfl ?_
      refine Vg ?_
      obtain rfl := Option.some.inj hF
      refine Xv ?_
      exact Vq ⟨rfl, rfl, rfl, rfl, trivial⟩
     ·have hF := Ym c4 hF
      rcases Bool.eq_false_or_eq_true (decide (40 < ((p1.Pulled).length : Int))) with c5 | c5
      ·have hF := Yl c5 hF
       refine Va (Xd rfl) rfl ?_
       refine Va (Xi (Xo rfl rfl te_27) (congrArg (fun n : Nat => PV.int .i64 (n : Int)) (List.length_map _))) rfl ?_
       refine Va (rd_gtr rfl rfl) rfl ?_
       refine Va (Vm rfl) rfl ?_
       refine Vz rfl rfl c2 ?_
       refine Va (Vc rfl tf_34_1 ts_22 (by decide)) rfl ?_
       refine Vz rfl rfl c2 ?_
       refine Va (Vf rfl (Vd rfl rfl) rfl ta_22 rfl) rfl ?_
       refine Vz rfl rfl c2 ?_
       refine Va (Xi (Xo rfl rfl te_22) (congrArg (fun n : Nat => PV.int .i64 (n : Int)) (List.length_map _))) rfl ?_
       refine Vz rfl rfl c2 ?_
       refine Va (rd_gtr rfl rfl) rfl ?_
       refine Va (Vo (congrArg PV.bool c2) rfl) rfl ?_
       refine Va (Vm rfl) rfl ?_
       refine Vz rfl rfl c3 ?_
       refine Va (Vc rfl tf_34_2 ts_22 (by decide)) rfl ?_
       refine Vz rfl rfl c3 ?_
       refine Va (Vf rfl (Vd rfl rfl) rfl ta_22 rfl) rfl ?_
       refine Vz rfl rfl c3 ?_
       refine Va (Xi (Xo rfl rfl te_22) (congrArg (fun n : Nat => PV.int .i64 (n : Int)) (List.length_map _))) rfl ?_
       refine Vz rfl rfl c3 ?_
       refine Va (rd_gtr rfl rfl) rfl ?_
       refine Va (Vo (congrArg PV.bool c3) rfl) rfl ?_
       refine Va (Vm rfl) rfl ?_
       refine Vz rfl rfl c4 ?_
       refine Va (Vc rfl tf_34_3 ts_32 (by decide)) rfl ?_
       refine Vz rfl rfl c4 ?_
       refine Va (Vf rfl (Vd rfl rfl) rfl ta_32 rfl) rfl ?_
       refine Vz rfl rfl c4 ?_
       refine Va (Xi (Xo rfl rfl te_32) (congrArg (fun n : Nat => PV.int .i64 (n : Int)) (List.length_map _))) rfl ?_
       refine Vz rfl rfl c4 ?_
       refine Va (rd_gtr rfl rfl) rfl ?_
       refine Va (Vo (congrArg PV.bool c4) rfl) rfl ?_
       refine Va (Vm rfl) rfl ?_
       refine Vb rfl rfl (Zh c5) rfl ?_
       refine Vb rfl rfl (Zh c5) rfl ?_
       refine Vb rfl rfl (Zh c5) rfl ?_
       refine Vb rfl rfl (Zh c5) rfl ?_
       refine Va (Vp (congrArg PV.bool c5) rfl) rfl ?_
       refine Vg ?_
       obtain rfl := Option.some.inj hF
       refine Xv ?_
       exact Vq ⟨rfl, rfl, rfl, rfl, trivial⟩
      ·have hF := Ym c5 hF
       refine Va (Xd rfl) rfl ?_
       refine Va (Xi (Xo rfl rfl te_27) (congrArg (fun n : Nat => PV.int .i64 (n : Int)) (List.length_map _))) rfl ?_
       refine Va (rd_gtr rfl rfl) rfl ?_
       refine Va (Vm rfl) rfl ?_
       refine Vz rfl rfl c2 ?_
       refine Va (Vc rfl tf_34_1 ts_22 (by decide)) rfl ?_
       refine Vz rfl rfl c2 ?_
       refine Va (Vf rfl (Vd rfl rfl) rfl ta_22 rfl) rfl ?_
       refine Vz rfl rfl c2 ?_
       refine Va (Xi (Xo rfl rfl te_22) (congrArg (fun n : Nat => PV.int .i64 (n : Int)) (List.length_map _))) rfl ?_
       refine Vz rfl rfl c2 ?_
       refine Va (rd_gtr rfl rfl) rfl ?_
       refine Va (Vo (congrArg PV.bool c2) rfl) rfl ?_
       refine Va (Vm rfl) rfl ?_
       refine Vz rfl rfl c3 ?_
       refine Va (Vc rfl tf_34_2 ts_22 (by decide)) rfl ?_
       refine Vz rfl rfl c3 ?_
       refine Va (Vf rfl (Vd rfl rfl) rfl ta_22 rfl) rfl ?_
       refine Vz rfl rfl c3 ?_
       refine Va (Xi (Xo rfl rfl te_22) (congrArg (fun n : Nat => PV.int .i64 (n : Int)) (List.length_map _))) rfl ?_
       refine Vz rfl rfl c3 ?_
       refine Va (rd_gtr rfl rfl) rfl ?_
       refine Va (Vo (congrArg PV.bool c3) rfl) rfl ?_
       refine Va (Vm rfl) rfl ?_
       refine Vz rfl rfl c4 ?_
       refine Va (Vc rfl tf_34_3 ts_32 (by decide)) rfl ?_
       refine Vz rfl rfl c4 ?_
       refine Va (Vf rfl (Vd rfl rfl) rfl ta_32 rfl) rfl ?_
       refine Vz rfl rfl c4 ?_
       refine Va (Xi (Xo rfl rfl te_32) (congrArg (fun n : Nat => PV.int .i64 (n : Int)) (List.length_map _))) rfl ?_
       refine Vz rfl rfl c4 ?_
       refine Va (rd_gtr rfl rfl) rfl ?_
       refine Va (Vo (congrArg PV.bool c4) rfl) rfl ?_
       refine Va (Vm rfl) rfl ?_
       refine Vz rfl rfl c5 ?_
       refine Va (Vc rfl tf_34_4 ts_32 (by decide)) rfl ?_
       refine Vz rfl rfl c5 ?_
       refine Va (Vf rfl (Vd rfl rfl) rfl ta_32 rfl) rfl ?_
       refine Vz rfl rfl c5 ?_
       refine Va (Xi (Xo rfl rfl te_32) (congrArg (fun n : Nat => PV.int .i64 (n : Int)) (List.length_map _))) rfl ?_
       refine Vz rfl rfl c5 ?_
       refine Va (rd_gtr rfl rfl) rfl ?_
       refine Va (Vo (congrArg PV.bool c5) rfl) rfl ?_
       refine Vg ?_
       obtain rfl := Option.some.inj hF
       refine Xv ?_
       exact Vq ⟨rfl, rfl, rfl, rfl, trivial⟩
  ·rintro _ _ _ _ ⟨rfl, hw⟩
   refine ⟨_, _, _, hw, ?_⟩
   refine Xj rfl (fun c6 => ?_) (fun c6 => ?_)
   ·have hF := Yl c6 hF
    refine Vi ?_
    refine Ve ?_
    obtain ⟨x7, h8, hF⟩ := Ys hF
    refine Vk (Xk rfl Try.call8 (F_law39_awake_ok h8 _)) rfl ?_
    refine Va (Xy rfl) rfl ?_
    refine Vg ?_
    refine Xb ?_
    obtain rfl := Option.some.inj hF
    refine Zy ?_
    exact Vv rfl [] (by decide) ⟨Vs rfl (.bool _), trivial⟩ trivial
   ·have hF := Ym c6 hF
    refine Xq ?_
    refine Vi ?_
    obtain ⟨x9, h10, hF⟩ := Ys hF
    rcases Bool.eq_false_or_eq_true x9 with c11 | c11
    ·have hF := Yl c11 hF
     obtain ⟨x12, h13, hF⟩ := Ys hF
     rcases Bool.eq_false_or_eq_true x12 with c14 | c14
     ·have hF := Yl c14 hF
      obtain ⟨x15, h16, hF⟩ := Ys hF
      obtain ⟨x17, h18, hF⟩ := Ys hF
      refine Zf [[], [0], [0, 1], [0, 1], [0, 1], [0, 1, 4], [0, 1], [0, 1, 6], [0, 1, 2, 3, 4, 5, 6, 7], [0, 1, 2, 3, 4, 5, 6, 7, 8], [0, 1, 2, 3, 4, 5, 6, 7, 8, 9], [0, 1, 2, 3, 4, 5, 6, 7, 8, 9, 10], [0, 1, 2, 3, 4, 5, 6, 7, 8, 9, 10], [0, 1, 2, 3, 4, 5, 6, 7, 8, 9, 10], [0, 1, 2, 3, 4, 5, 6, 7, 8, 9, 10, 13], [0, 1, 2, 3, 4, 5, 6, 7, 8, 9, 10], [0, 1, 2, 3, 4, 5, 6, 7, 8, 9, 10, 15], [0, 1, 2, 3, 4, 5, 6, 7, 8, 9, 10, 13, 14, 15, 16], [0, 1, 2, 3, 4, 5, 6, 7, 8, 9, 10], [0, 1, 2, 3, 4, 5, 6, 7, 8, 9, 10, 18], [0, 1, 2, 3, 4, 5, 6, 7, 8, 9, 10, 11, 12, 13, 14, 15, 16, 17, 18, 19], [0, 1, 2, 3, 4, 5, 6, 7, 8, 9, 10, 11, 12, 13, 14, 15, 16, 17, 18, 19, 20], [0, 1, 2, 3, 4, 5, 6, 7, 8, 9, 10, 11, 12, 13, 14, 15, 16, 17, 18, 19, 20, 21]] mixed (by kernel_rfl) rfl ?_
      refine dn1 rfl rfl (nt_of (Xk rfl Try.call8 (F_law39_awake_ok h10 _))) ?_
      refine Yn rfl rfl (Vm rfl) ?_
      refine Zk rfl rfl rfl rfl c11 (Xd rfl) ?_
      refine Zk rfl rfl rfl rfl c11 (Vu (ds := [.int .i64 p1.Time, .vs 1 (List.map (PV.int .i64) p1.States), .vs 1 (List.map (PV.int .i64) p1.Since), .vs 1 (List.map PV.bool p1.Pulled), .vs 1 (List.map PV.bool p1.Held)]) rfl (Vd rfl rfl) rfl ta_34 ts_34 rfl rfl rfl) ?_
      refine Zk rfl rfl rfl rfl c11 (rd_indexA (q := 0) rfl rfl rfl (by decide) tr_41 ts_3) ?_
      refine Zk rfl rfl rfl rfl c11 (Vf rfl (Vd rfl rfl) rfl ta_3 rfl) ?_
      refine Zk rfl rfl rfl rfl c11 (rd_indexA (q := 1) rfl rfl rfl (by decide) tr_41 ts_3) ?_
      refine Zk rfl rfl rfl rfl c11 (Vf rfl (Vd rfl rfl) rfl ta_3 rfl) ?_
      refine Wf _ rfl rfl rfl (congrArg PV.bool c11) (Yg (nt_of (Xk rfl Try.call18 (F_law39_agree_ok h13 _))) Zt) ?_
      refine Yn rfl rfl (Vp (congrArg PV.bool c11) rfl) ?_
      refine Yn rfl rfl (Vm rfl) ?_
      refine Zk rfl rfl rfl rfl c14 (Xd rfl) ?_
      refine Zk rfl rfl rfl rfl c14 (Vu (ds := [.int .i64 p1.Time, .vs 1 (List.map (PV.int .i64) p1.States), .vs 1 (List.map (PV.int .i64) p1.Since), .vs 1 (List.map PV.bool p1.Pulled), .vs 1 (List.map PV.bool p1.Held)]) rfl (Vd rfl rfl) rfl ta_34 ts_34 rfl rfl rfl) ?_
      refine Zk rfl rfl rfl rfl c14 (rd_indexA (q := 0) rfl rfl rfl (by decide) tr_41 ts_3) ?_
      refine Zk rfl rfl rfl rfl c14 (Vf rfl (Vd rfl rfl) rfl ta_3 rfl) ?_
      refine Zk rfl rfl rfl rfl c14 (Xd rfl) ?_
      refine Zk rfl rfl rfl rfl c14 (Xi (Xo rfl rfl te_27) (congrArg (fun n : Nat => PV.int .i64 (n : Int)) (List.length_map _))) ?_
      refine Wf _ rfl rfl rfl (congrArg PV.bool c14) (Yg (nt_of (Xk rfl Try.call19 (F_made_Mod_ok h16 _))) Zt) ?_
      refine Zk rfl rfl rfl rfl c14 (rd_indexA (q := 1) rfl rfl rfl (by decide) tr_41 ts_3) ?_
      refine Zk rfl rfl rfl rfl c14 (Vf rfl (Vd rfl rfl) rfl ta_3 rfl) ?_
      refine Wf _ rfl rfl rfl (congrArg PV.bool c14) (Yg (nt_of (Xk rfl Try.call18 (F_law39_agree_ok h18 _))) Zt) ?_
      refine Yn rfl rfl (Vp (congrArg PV.bool c14) rfl) ?_
      refine Yn rfl rfl (Xy rfl) ?_
      refine Yz ?_
      refine Xb ?_
      obtain rfl := Option.some.inj hF
      refine Zy ?_
      exact Vv rfl [] (by decide) ⟨Vs rfl (.bool _), trivial⟩ trivial
     ·have hF := Ym c14 hF
      refine Zf [[], [0], [0, 1], [0, 1], [0, 1], [0, 1, 4], [0, 1], [0, 1, 6], [0, 1, 2, 3, 4, 5, 6, 7], [0, 1, 2, 3, 4, 5, 6, 7, 8], [0, 1, 2, 3, 4, 5, 6, 7, 8, 9], [0, 1, 2, 3, 4, 5, 6, 7, 8, 9, 10], [0, 1, 2, 3, 4, 5, 6, 7, 8, 9, 10], [0, 1, 2, 3, 4, 5, 6, 7, 8, 9, 10], [0, 1, 2, 3, 4, 5, 6, 7, 8, 9, 10, 13], [0, 1, 2, 3, 4, 5, 6, 7, 8, 9, 10], [0, 1, 2, 3, 4, 5, 6, 7, 8, 9, 10, 15], [0, 1, 2, 3, 4, 5, 6, 7, 8, 9, 10, 13, 14, 15, 16], [0, 1, 2, 3, 4, 5, 6, 7, 8, 9, 10], [0, 1, 2, 3, 4, 5, 6, 7, 8, 9, 10, 18], [0, 1, 2, 3, 4, 5, 6, 7, 8, 9, 10, 11, 12, 13, 14, 15, 16, 17, 18, 19], [0, 1, 2, 3, 4, 5, 6, 7, 8, 9, 10, 11, 12, 13, 14, 15, 16, 17, 18, 19, 20], [0, 1, 2, 3, 4, 5, 6, 7, 8, 9, 10, 11, 12, 13, 14, 15, 16, 17, 18, 19, 20, 21]] mixed (by kernel_rfl) rfl ?_
      refine dn1 rfl rfl (nt_of (Xk rfl Try.call8 (F_law39_awake_ok h10 _))) ?_
      refine Yn rfl rfl (Vm rfl) ?_
      refine Zk rfl rfl rfl rfl c11 (Xd rfl) ?_
      refine Zk rfl rfl rfl rfl c11 (Vu (ds := [.int .i64 p1.Time, .vs 1 (List.map (PV.int .i64) p1.States), .vs 1 (List.map (PV.int .i64) p1.Since), .vs 1 (List.map PV.bool p1.Pulled), .vs 1 (List.map PV.bool p1.Held)]) rfl (Vd rfl rfl) rfl ta_34 ts_34 rfl rfl rfl) ?_
      refine Zk rfl rfl rfl rfl c11 (rd_indexA (q := 0) rfl rfl rfl (by decide) tr_41 ts_3) ?_
      refine Zk rfl rfl rfl rfl c11 (Vf rfl (Vd rfl rfl) rfl ta_3 rfl) ?_
      refine Zk rfl rfl rfl rfl c11 (rd_indexA (q := 1) rfl rfl rfl (by decide) tr_41 ts_3) ?_
      refine Zk rfl rfl rfl rfl c11 (Vf rfl (Vd rfl rfl) rfl ta_3 rfl) ?_
      refine Wf _ rfl rfl rfl (congrArg PV.bool c11) (Yg (nt_of (Xk rfl Try.call18 (F_law39_agree_ok h13 _))) Zt) ?_
      refine Yn rfl rfl (Vp (congrArg PV.bool c11) rfl) ?_
      refine Yn rfl rfl (Vm rfl) ?_
      refine Vn rfl rfl rfl (Zm c14) ?_
      refine Vn rfl rfl rfl (Zm c14) ?_
      refine Vn rfl rfl rfl (Zm c14) ?_
      refine Vn rfl rfl rfl (Zm c14) ?_
      refine Vn rfl rfl rfl (Zm c14) ?_
      refine Vn rfl rfl rfl (Zm c14) ?_
      refine Vn rfl rfl rfl (Zm c14) ?_
      refine Vn rfl rfl rfl (Zm c14) ?_
      refine Vn rfl rfl rfl (Zm c14) ?_
      refine Vn rfl rfl rfl (Zm c14) ?_
      refine Yn rfl rfl (Vo (congrArg PV.bool c14) rfl) ?_
      refine Yn rfl rfl (Xy rfl) ?_
      refine Yz ?_
      refine Xb ?_
      obtain rfl := Option.some.inj hF
      refine Zy ?_
      exact Vv rfl [] (by decide) ⟨Vs rfl (.bool _), trivial⟩ trivial
    ·have hF := Ym c11 hF
     refine Zf [[], [0], [0, 1], [0, 1], [0, 1], [0, 1, 4], [0, 1], [0, 1, 6], [0, 1, 2, 3, 4, 5, 6, 7], [0, 1, 2, 3, 4, 5, 6, 7, 8], [0, 1, 2, 3, 4, 5, 6, 7, 8, 9], [0, 1, 2, 3, 4, 5, 6, 7, 8, 9, 10], [0, 1, 2, 3, 4, 5, 6, 7, 8, 9, 10], [0, 1, 2, 3, 4, 5, 6, 7, 8, 9, 10], [0, 1, 2, 3, 4, 5, 6, 7, 8, 9, 10, 13], [0, 1, 2, 3, 4, 5, 6, 7, 8, 9, 10], [0, 1, 2, 3, 4, 5, 6, 7, 8, 9, 10, 15], [0, 1, 2, 3, 4, 5, 6, 7, 8, 9, 10, 13, 14, 15, 16], [0, 1, 2, 3, 4, 5, 6, 7, 8, 9, 10], [0, 1, 2, 3, 4, 5, 6, 7, 8, 9, 10, 18], [0, 1, 2, 3, 4, 5, 6, 7, 8, 9, 10, 11, 12, 13, 14, 15, 16, 17, 18, 19], [0, 1, 2, 3, 4, 5, 6, 7, 8, 9, 10, 11, 12, 13, 14, 15, 16, 17, 18, 19, 20], [0, 1, 2, 3, 4, 5, 6, 7, 8, 9, 10, 11, 12, 13, 14, 15, 16, 17, 18, 19, 20, 21]] mixed (by kernel_rfl) rfl ?_
     refine dn1 rfl rfl (nt_of (Xk rfl Try.call8 (F_law39_awake_ok h10 _))) ?_
     refine Yn rfl rfl (Vm rfl) ?_
     refine Vn rfl rfl rfl (Zm c11) ?_
     refine Vn rfl rfl rfl (Zm c11) ?_
     refine Vn rfl rfl rfl (Zm c11) ?_
     refine Vn rfl rfl rfl (Zm c11) ?_
     refine Vn rfl rfl rfl (Zm c11) ?_
     refine Vn rfl rfl rfl (Zm c11) ?_
     refine Vn rfl rfl rfl (Zm c11) ?_
     refine Yn rfl rfl (Vo (congrArg PV.bool c11) rfl) ?_
     refine Yn rfl rfl (Vm rfl) ?_
     refine Vn rfl rfl rfl (by decide) ?_
     refine Vn rfl rfl rfl (by decide) ?_
     refine Vn rfl rfl rfl (by decide) ?_
     refine Vn rfl rfl rfl (by decide) ?_
     refine Vn rfl rfl rfl (by decide) ?_
     refine Vn rfl rfl rfl (by decide) ?_
     refine Vn rfl rfl rfl (by decide) ?_
     refine Vn rfl rfl rfl (by decide) ?_
     refine Vn rfl rfl rfl (by decide) ?_
     refine Vn rfl rfl rfl (by decide) ?_
     refine Yn rfl rfl (Vo rfl rfl) ?_
     refine Yn rfl rfl (Xy rfl) ?_
     refine Yz ?_
     refine Xb ?_
     obtain rfl := Option.some.inj hF
     refine Zy ?_
     exact Vv rfl [] (by decide) ⟨Vs rfl (.bool _), trivial⟩ trivial
 ·rintro _ _ _ _ ⟨he, hw⟩
  refine ⟨_, _, _, hw, ?_⟩
  exact Ze he [.bool r] ⟨rfl, trivial⟩ (.bool _) ⟨rfl, rfl⟩

end Go.Proofs.Ytmomjhbinkmefaa
