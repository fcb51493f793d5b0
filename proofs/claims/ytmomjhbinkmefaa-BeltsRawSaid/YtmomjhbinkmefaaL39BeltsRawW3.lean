/- Printed by wip/lift/lift.py: the walks that show that the program computes them. -/
import Derived.Test.YtmomjhbinkmefaaL39BeltsRawW2
namespace Go.Proofs.Ytmomjhbinkmefaa
open Go Go.Aml Go.L
attribute [local irreducible] VRd VEf VOp VOps VWp DOps
set_option linter.unusedVariables false
open Go.Aml renaming vops_rd → Va, vops_skip → Vb, rd_fieldAddr → Vc, getO_N → Vd, vwp_region → Ve, rd_load1 → Vf, vops_nil → Vg, ltObj_map → Vh, vwp_seq → Vi, rd_mvI → Vj, vops_efE → Vk, cv_same → Vl, rd_mvB → Vm, dops_skip → Vn, rd_pickF → Vo, rd_pickT → Vp, weak_sub → Vq, lenS → Vr, rn_low → Vs, vef_into → Vt, rd_loadN → Vu, weak_pick → Vv, vwp_monoW → Vw, vef_store → Vx, full_take → Vy, vt1 → Vz, rd_asI → Xa, vwp_ret → Xb, vcalls_of_body → Xc, rd_mvV → Xd, vef_allocN → Xe, vef_callN → Xf, rd_loadV1 → Xg, VRd → Xh, rd_to → Xi, vwp_cond → Xj, vef_callP → Xk, len_setL → Xl, rd_eql → Xm, len_app → Xn, rd_lenV → Xo, weak_freezeN → Xp, vwp_skip → Xq, setO_N → Xr, rx1 → Xs, ltObj_es → Xt, rn_sl → Xu, onlyE → Xv, dopx_rd → Xw, lt_agg → Xx, rd_asB → Xy, rd_extract → Xz, Weak → Ya, rd_fieldVaddr → Yb, nt_ne → Yc, dops_skipX → Yd, vwp_weak → Ye, mv_sl → Yf, all1 → Yg, lt_map → Yh, vef_mkN → Yi, rd_ixV → Yj, vwp_block → Yk, bifT → Yl, bifF → Ym, dr1 → Yn, rn_ptr → Yo, allx1 → Yp, cvo_agg → Yq, ne_low' → Yr, bnd → Ys, ne_own → Yt, weak_room → Yu, VCalls → Yv, vef_boxN → Yw, sets_own → Yx, dops_rdW → Yy, dops_nil → Yz, getO_B → Za, rd_neq → Zb, getI_some → Zc, dopx_ef → Zd, bodyQ_pure → Ze, vwp_drawn0 → Zf, view_same → Zg, neT → Zh, cv_sl → Zi, bodyQ_some → Zj, dt1 → Zk, view_sl → Zl, neF → Zm, rd_not → Zn, rd_lss → Zo, dops_ef → Zp, na1 → Zq, lt_kk → Zr, ex1 → Zs, all0 → Zt, vwp_loopC → Zu, rd_ixS → Zv, get_N → Zw, borC → Zx, fnR → Zy, vcalls_low → Zz, mv_ptr → Wa, vwp_drawn → Wb, vef_callS → Wc, rd_build → Wd, vwp_exit → We, dops_takeW → Wf, rd_nilPtr → Wg, sets_B → Wh, lp_some → Wi, lp_bindE → Wj, bor_start → Wk, sets_nil → Wl
set_option maxHeartbeats 4000000

theorem F_ref39_Valid_ok {p0 : List T_Belt} {p1 : T_Line} {r : Bool} (hF : F_ref39_Valid p0 p1 = some r) (low : List AObj) :
    Yv Try.prog 41 [.vs 2 (List.map T_Belt.enc p0), .agg [.int .i64 p1.Time, .vs 1 (List.map (PV.int .i64) p1.States), .vs 1 (List.map (PV.int .i64) p1.Since), .vs 1 (List.map PV.bool p1.Pulled), .vs 1 (List.map PV.bool p1.Held)]] low fun x low' => x = .bool r ∧ low' = low := by
 refine Xc (nt := 121) (rs := [.tmp 4]) Try.func41 rfl rfl (Nat.le_of_ble_eq_true rfl) rfl ?_
 refine Vw (Q' := FnE (fun E' lw lc => Ya E' lw lc [(4, .bool r)] low [])) ?_ ?_
 ·unfold F_ref39_Valid at hF
  refine Vi ?_
  refine Ve ?_
  refine Vk (Yw rfl rfl (v := .agg [.int .i64 p1.Time, .vs 1 (List.map (PV.int .i64) p1.States), .vs 1 (List.map (PV.int .i64) p1.Since), .vs 1 (List.map PV.bool p1.Pulled), .vs 1 (List.map PV.bool p1.Held)]) rfl rfl (Nat.succ_pos _) rfl rfl) rfl ?_
  refine Va (Xy rfl) rfl ?_
  refine Vg ?_
  refine Vi ?_
  refine Ve ?_
  refine Va (Xd rfl) rfl ?_
  refine Va (Xi (Xo rfl rfl te_27) (congrArg (fun n : Nat => PV.int .i64 (n : Int)) (List.length_map _))) rfl ?_
  refine Va (Xa rfl) rfl ?_
  refine Vg ?_
  refine Vi ?_
  refine Vi ?_
  obtain ⟨o1, ho1, hF⟩ := Ys hF
  refine Vw (Q' := (fun o1 => OnlyE .normal (fun E' lw lc => Ya E' lw lc [(0, .vs 2 (List.map T_Belt.enc p0)), (3, .ptr (low.length + 0) 0 0 0), (5, .int .i64 ((p0).length : Int)), (50, .bool o1)] low [⟨34, 5, [.agg [.int .i64 p1.Time, .vs 1 (List.map (PV.int .i64) p1.States), .vs 1 (List.map (PV.int .i64) p1.Since), .vs 1 (List.map PV.bool p1.Pulled), .vs 1 (List.map PV.bool p1.Held)]], 0⟩])) o1) ?_ ?_
  ·replace hF := ho1
   refine Ve ?_
   obtain ⟨x2, h3, hF⟩ := Ys hF
   rcases Bool.eq_false_or_eq_true (!x2) with c4 | c4
   ·have hF := Yl c4 hF
    refine Va (Xd rfl) rfl ?_
    refine Vk (Xk rfl Try.call44 (F_ref39_belts_ok h3 _)) rfl ?_
    refine Va (Zn rfl) rfl ?_
    refine Va (Vm rfl) rfl ?_
    refine Vb rfl rfl (Zh c4) rfl ?_
    refine Vb rfl rfl (Zh c4) rfl ?_
    refine Vb rfl rfl (Zh c4) rfl ?_
    refine Vb rfl rfl (Zh c4) rfl ?_
    refine Vb rfl rfl (Zh c4) rfl ?_
    refine Va (Vp (congrArg PV.bool c4) rfl) rfl ?_
    refine Va (Vm rfl) rfl ?_
    refine Vb rfl rfl (by decide) rfl ?_
    refine Vb rfl rfl (by decide) rfl ?_
    refine Vb rfl rfl (by decide) rfl ?_
    refine Vb rfl rfl (by decide) rfl ?_
    refine Vb rfl rfl (by decide) rfl ?_
    refine Va (Vp rfl rfl) rfl ?_
    refine Va (Vm rfl) rfl ?_
    refine Vb rfl rfl (by decide) rfl ?_
    refine Vb rfl rfl (by decide) rfl ?_
    refine Vb rfl rfl (by decide) rfl ?_
    refine Vb rfl rfl (by decide) rfl ?_
    refine Vb rfl rfl (by decide) rfl ?_
    refine Va (Vp rfl rfl) rfl ?_
    refine Va (Vm rfl) rfl ?_
    refine Vb rfl rfl (by decide) rfl ?_
    refine Vb rfl rfl (by decide) rfl ?_
    refine Vb rfl rfl (by decide) rfl ?_
    refine Vb rfl rfl (by decide) rfl ?_
    refine Vb rfl rfl (by decide) rfl ?_
    refine Va (Vp rfl rfl) rfl ?_
    refine Va (Vm rfl) rfl ?_
    refine Vb rfl rfl (by decide) rfl ?_
    refine Vb rfl rfl (by decide) rfl ?_
    refine Vb rfl rfl (by decide) rfl ?_
    refine Va (Vp rfl rfl) rfl ?_
    refine Va (Vm rfl) rfl ?_
    refine Vb rfl rfl (by decide) rfl ?_
    refine Vb rfl rfl (by decide) rfl ?_
    refine Vb rfl rfl (by decide) rfl ?_
    refine Va (Vp rfl rfl) rfl ?_
    refine Vg ?_
    obtain rfl := Option.some.inj hF
    refine Xv ?_
    exact Vq ⟨rfl, rfl, rfl, rfl, trivial⟩
   ·have hF := Ym c4 hF
    rcases Bool.eq_false_or_eq_true (decide (((p1.States).length : Int) ≠ ((p0).length : Int))) with c5 | c5
    ·have hF := Yl c5 hF
     refine Va (Xd rfl) rfl ?_
     refine Vk (Xk rfl Try.call44 (F_ref39_belts_ok h3 _)) rfl ?_
     refine Va (Zn rfl) rfl ?_
     refine Va (Vm rfl) rfl ?_
     refine Vz rfl rfl c4 ?_
     refine Va (Vc rfl tf_34_1 ts_22 (by decide)) rfl ?_
     refine Vz rfl rfl c4 ?_
     refine Va (Vf rfl (Vd rfl rfl) rfl ta_22 rfl) rfl ?_
     refine Vz rfl rfl c4 ?_
     refine Va (Xi (Xo rfl rfl te_22) (congrArg (fun n : Nat => PV.int .i64 (n : Int)) (List.length_map _))) rfl ?_
     refine Vz rfl rfl c4 ?_
     refine Va (Vj rfl) rfl ?_
     refine Vz rfl rfl c4 ?_
     refine Va (Zb rfl rfl) rfl ?_
     refine Va (Vo (congrArg PV.bool c4) rfl) rfl ?_
     refine Va (Vm rfl) rfl ?_
     refine Vb rfl rfl (Zh c5) rfl ?_
     refine Vb rfl rfl (Zh c5) rfl ?_
     refine Vb rfl rfl (Zh c5) rfl ?_
     refine Vb rfl rfl (Zh c5) rfl ?_
     refine Vb rfl rfl (Zh c5) rfl ?_
     refine Va (Vp (congrArg PV.bool c5) rfl) rfl ?_
     refine Va (Vm rfl) rfl ?_
     refine Vb rfl rfl (by decide) rfl ?_
     refine Vb rfl rfl (by decide) rfl ?_
     refine Vb rfl rfl (by decide) rfl ?_
     refine Vb rfl rfl (by decide) rfl ?_
     refine Vb rfl rfl (by decide) rfl ?_
     refine Va (Vp rfl rfl) rfl ?_
     refine Va (Vm rfl) rfl ?_
     refine Vb rfl rfl (by decide) rfl ?_
     refine Vb rfl rfl (by decide) rfl ?_
     refine Vb rfl rfl (by decide) rfl ?_
     refine Vb rfl rfl (by decide) rfl ?_
     refine Vb rfl rfl (by decide) rfl ?_
     refine Va (Vp rfl rfl) rfl ?_
     refine Va (Vm rfl) rfl ?_
     refine Vb rfl rfl (by decide) rfl ?_
     refine Vb rfl rfl (by decide) rfl ?_
     refine Vb rfl rfl (by decide) rfl ?_
     refine Va (Vp rfl rfl) rfl ?_
     refine Va (Vm rfl) rfl ?_
     refine Vb rfl rfl (by decide) rfl ?_
     refine Vb rfl rfl (by decide) rfl ?_
     refine Vb rfl rfl (by decide) rfl ?_
     refine Va (Vp rfl rfl) rfl ?_
     refine Vg ?_
     obtain rfl := Option.some.inj hF
     refine Xv ?_
     exact Vq ⟨rfl, rfl, rfl, rfl, trivial⟩
    ·have hF := Ym c5 hF
     rcases Bool.eq_false_or_eq_true (decide (((p1.Since).length : Int) ≠ ((p0).length : Int))) with c6 | c6
     ·have hF := Yl c6 hF
      refine Va (Xd rfl) rfl ?_
      refine Vk (Xk rfl Try.call44 (F_ref39_belts_ok h3 _)) rfl ?_
      refine Va (Zn rfl) rfl ?_
      refine Va (Vm rfl) rfl ?_
      refine Vz rfl rfl c4 ?_
      refine Va (Vc rfl tf_34_1 ts_22 (by decide)) rfl ?_
      refine Vz rfl rfl c4 ?_
      refine Va (Vf rfl (Vd rfl rfl) rfl ta_22 rfl) rfl ?_
      refine Vz rfl rfl c4 ?_
      refine Va (Xi (Xo rfl rfl te_22) (congrArg (fun n : Nat => PV.int .i64 (n : Int)) (List.length_map _))) rfl ?_
      refine Vz rfl rfl c4 ?_
      refine Va (Vj rfl) rfl ?_
      refine Vz rfl rfl c4 ?_
      refine Va (Zb rfl rfl) rfl ?_
      refine Va (Vo (congrArg PV.bool c4) rfl) rfl ?_
      refine Va (Vm rfl) rfl ?_
      refine Vz rfl rfl c5 ?_
      refine Va (Vc rfl tf_34_2 ts_22 (by decide)) rfl ?_
      refine Vz rfl rfl c5 ?_
      refine Va (Vf rfl (Vd rfl rfl) rfl ta_22 rfl) rfl ?_
      refine Vz rfl rfl c5 ?_
      refine Va (Xi (Xo rfl rfl te_22) (congrArg (fun n : Nat => PV.int .i64 (n : Int)) (List.length_map _))) rfl ?_
      refine Vz rfl rfl c5 ?_
      refine Va (Vj rfl) rfl ?_
      refine Vz rfl rfl c5 ?_
      refine Va (Zb rfl rfl) rfl ?_
      refine Va (Vo (congrArg PV.bool c5) rfl) rfl ?_
      refine Va (Vm rfl) rfl ?_
      refine Vb rfl rfl (Zh c6) rfl ?_
      refine Vb rfl rfl (Zh c6) rfl ?_
      refine Vb rfl rfl (Zh c6) rfl ?_
      refine Vb rfl rfl (Zh c6) rfl ?_
      refine Vb rfl rfl (Zh c6) rfl ?_
      refine Va (Vp (congrArg PV.bool c6) rfl) rfl ?_
      refine Va (Vm rfl) rfl ?_
      refine Vb rfl rfl (by decide) rfl ?_
      refine Vb rfl rfl (by decide) rfl ?_
      refine Vb rfl rfl (by decide) rfl ?_
      refine Vb rfl rfl (by decide) rfl ?_
      refine Vb rfl rfl (by decide) rfl ?_
      refine Va (Vp rfl rfl) rfl ?_
      refine Va (Vm rfl) rfl ?_
      refine Vb rfl rfl (by decide) rfl ?_
      refine Vb rfl rfl (by decide) rfl ?_
      refine Vb rfl rfl (by decide) rfl ?_
      refine Va (Vp rfl rfl) rfl ?_
      refine Va (Vm rfl) rfl ?_
      refine Vb rfl rfl (by decide) rfl ?_
      refine Vb rfl rfl (by decide) rfl ?_
      refine Vb rfl rfl (by decide) rfl ?_
      refine Va (Vp rfl rfl) rfl ?_
      refine Vg ?_
      obtain rfl := Option.some.inj hF
      refine Xv ?_
      exact Vq ⟨rfl, rfl, rfl, rfl, trivial⟩
     ·have hF := Ym c6 hF
      rcases Bool.eq_false_or_eq_true (decide (((p1.Pulled).length : Int) ≠ ((p0).length : Int))) with c7 | c7
      ·have hF := Yl c7 hF
       refine Va (Xd rfl) rfl ?_
       refine Vk (Xk rfl Try.call44 (F_ref39_belts_ok h3 _)) rfl ?_
       refine Va (Zn rfl) rfl ?_
       refine Va (Vm rfl) rfl ?_
       refine Vz rfl rfl c4 ?_
       refine Va (Vc rfl tf_34_1 ts_22 (by decide)) rfl ?_
       refine Vz rfl rfl c4 ?_
       refine Va (Vf rfl (Vd rfl rfl) rfl ta_22 rfl) rfl ?_
       refine Vz rfl rfl c4 ?_
       refine Va (Xi (Xo rfl rfl te_22) (congrArg (fun n : Nat => PV.int .i64 (n : Int)) (List.length_map _))) rfl ?_
       refine Vz rfl rfl c4 ?_
       refine Va (Vj rfl) rfl ?_
       refine Vz rfl rfl c4 ?_
       refine Va (Zb rfl rfl) rfl ?_
       refine Va (Vo (congrArg PV.bool c4) rfl) rfl ?_
       refine Va (Vm rfl) rfl ?_
       refine Vz rfl rfl c5 ?_
       refine Va (Vc rfl tf_34_2 ts_22 (by decide)) rfl ?_
       refine Vz rfl rfl c5 ?_
       refine Va (Vf rfl (Vd rfl rfl) rfl ta_22 rfl) rfl ?_
       refine Vz rfl rfl c5 ?_
       refine Va (Xi (Xo rfl rfl te_22) (congrArg (fun n : Nat => PV.int .i64 (n : Int)) (List.length_map _))) rfl ?_
       refine Vz rfl rfl c5 ?_
       refine Va (Vj rfl) rfl ?_
       refine Vz rfl rfl c5 ?_
       refine Va (Zb rfl rfl) rfl ?_
       refine Va (Vo (congrArg PV.bool c5) rfl) rfl ?_
       refine Va (Vm rfl) rfl ?_
       refine Vz rfl rfl c6 ?_
       refine Va (Vc rfl tf_34_3 ts_32 (by decide)) rfl ?_
       refine Vz rfl rfl c6 ?_
       refine Va (Vf rfl (Vd rfl rfl) rfl ta_32 rfl) rfl ?_
       refine Vz rfl rfl c6 ?_
       refine Va (Xi (Xo rfl rfl te_32) (congrArg (fun n : Nat => PV.int .i64 (n : Int)) (List.length_map _))) rfl ?_
       refine Vz rfl rfl c6 ?_
       refine Va (Vj rfl) rfl ?_
       refine Vz rfl rfl c6 ?_
       refine Va (Zb rfl rfl) rfl ?_
       refine Va (Vo (congrArg PV.bool c6) rfl) rfl ?_
       refine Va (Vm rfl) rfl ?_
       refine Vb rfl rfl (Zh c7) rfl ?_
       refine Vb rfl rfl (Zh c7) rfl ?_
       refine Vb rfl rfl (Zh c7) rfl ?_
       refine Vb rfl rfl (Zh c7) rfl ?_
       refine Vb rfl rfl (Zh c7) rfl ?_
       refine Va (Vp (congrArg PV.bool c7) rfl) rfl ?_
       refine Va (Vm rfl) rfl ?_
       refine Vb rfl rfl (by decide) rfl ?_
       refine Vb rfl rfl (by decide) rfl ?_
       refine Vb rfl rfl (by decide) rfl ?_
       refine Va (Vp rfl rfl) rfl ?_
       refine Va (Vm rfl) rfl ?_
       refine Vb rfl rfl (by decide) rfl ?_
       refine Vb rfl rfl (by decide) rfl ?_
       refine Vb rfl rfl (by decide) rfl ?_
       refine Va (Vp rfl rfl) rfl ?_
       refine Vg ?_
       obtain rfl := Option.some.inj hF
       refine Xv ?_
       exact Vq ⟨rfl, rfl, rfl, rfl, trivial⟩
      ·have hF := Ym c7 hF
       rcases Bool.eq_false_or_eq_true (decide (((p1.Held).length : Int) ≠ ((p0).length : Int))) with c8 | c8
       ·have hF := Yl c8 hF
        refine Va (Xd rfl) rfl ?_
        refine Vk (Xk rfl Try.call44 (F_ref39_belts_ok h3 _)) rfl ?_
        refine Va (Zn rfl) rfl ?_
        refine Va (Vm rfl) rfl ?_
        refine Vz rfl rfl c4 ?_
        refine Va (Vc rfl tf_34_1 ts_22 (by decide)) rfl ?_
        refine Vz rfl rfl c4 ?_
        refine Va (Vf rfl (Vd rfl rfl) rfl ta_22 rfl) rfl ?_
        refine Vz rfl rfl c4 ?_
        refine Va (Xi (Xo rfl rfl te_22) (congrArg (fun n : Nat => PV.int .i64 (n : Int)) (List.length_map _))) rfl ?_
        refine Vz rfl rfl c4 ?_
        refine Va (Vj rfl) rfl ?_
        refine Vz rfl rfl c4 ?_
        refine Va (Zb rfl rfl) rfl ?_
        refine Va (Vo (congrArg PV.bool c4) rfl) rfl ?_
        refine Va (Vm rfl) rfl ?_
        refine Vz rfl rfl c5 ?_
        refine Va (Vc rfl tf_34_2 ts_22 (by decide)) rfl ?_
        refine Vz rfl rfl c5 ?_
        refine Va (Vf rfl (Vd rfl rfl) rfl ta_22 rfl) rfl ?_
        refine Vz rfl rfl c5 ?_
        refine Va (Xi (Xo rfl rfl te_22) (congrArg (fun n : Nat => PV.int .i64 (n : Int)) (List.length_map _))) rfl ?_
        refine Vz rfl rfl c5 ?_
        refine Va (Vj rfl) rfl ?_
        refine Vz rfl rfl c5 ?_
        refine Va (Zb rfl rfl) rfl ?_
        refine Va (Vo (congrArg PV.bool c5) rfl) rfl ?_
        refine Va (Vm rfl) rfl ?_
        refine Vz rfl rfl c6 ?_
        refine Va (Vc rfl tf_34_3 ts_32 (by decide)) rfl ?_
        refine Vz rfl rfl c6 ?_
        refine Va (Vf rfl (Vd rfl rfl) rfl ta_32 rfl) rfl ?_
        refine Vz rfl rfl c6 ?_
        refine Va (Xi (Xo rfl rfl te_32) (congrArg (fun n : Nat => PV.int .i64 (n : Int)) (List.length_map _))) rfl ?_
        refine Vz rfl rfl c6 ?_
        refine Va (Vj rfl) rfl ?_
        refine Vz rfl rfl c6 ?_
        refine Va (Zb rfl rfl) rfl ?_
        refine Va (Vo (congrArg PV.bool c6) rfl) rfl ?_
        refine Va (Vm rfl) rfl ?_
        refine Vz rfl rfl c7 ?_
        refine Va (Vc rfl tf_34_4 ts_32 (by decide)) rfl ?_
        refine Vz rfl rfl c7 ?_
        refine Va (Vf rfl (Vd rfl rfl) rfl ta_32 rfl) rfl ?_
        refine Vz rfl rfl c7 ?_
        refine Va (Xi (Xo rfl rfl te_32) (congrArg (fun n : Nat => PV.int .i64 (n : Int)) (List.length_map _))) rfl ?_
        refine Vz rfl rfl c7 ?_
        refine Va (Vj rfl) rfl ?_
        refine Vz rfl rfl c7 ?_
        refine Va (Zb rfl rfl) rfl ?_
        refine Va (Vo (congrArg PV.bool c7) rfl) rfl ?_
        refine Va (Vm rfl) rfl ?_
        refine Vb rfl rfl (Zh c8) rfl ?_
        refine Vb rfl rfl (Zh c8) rfl ?_
        refine Vb rfl rfl (Zh c8) rfl ?_
        refine Va (Vp (congrArg PV.bool c8) rfl) rfl ?_
        refine Va (Vm rfl) rfl ?_
        refine Vb rfl rfl (by decide) rfl ?_
        refine Vb rfl rfl (by decide) rfl ?_
        refine Vb rfl rfl (by decide) rfl ?_
        refine Va (Vp rfl rfl) rfl ?_
        refine Vg ?_
        obtain rfl := Option.some.inj hF
        refine Xv ?_
        exact Vq ⟨rfl, rfl, rfl, rfl, trivial⟩
       ·have hF := Ym c8 hF
        rcases Bool.eq_false_or_eq_true (decide (p1.Time < 0)) with c9 | c9
        ·have hF := Yl c9 hF
         refine Va (Xd rfl) rfl ?_
         refine Vk (Xk rfl Try.call44 (F_ref39_belts_ok h3 _)) rfl ?_
         refine Va (Zn rfl) rfl ?_
         refine Va (Vm rfl) rfl ?_
         refine Vz rfl rfl c4 ?_
         refine Va (Vc rfl tf_34_1 ts_22 (by decide)) rfl ?_
         refine Vz rfl rfl c4 ?_
         refine Va (Vf rfl (Vd rfl rfl) rfl ta_22 rfl) rfl ?_
         refine Vz rfl rfl c4 ?_
         refine Va (Xi (Xo rfl rfl te_22) (congrArg (fun n : Nat => PV.int .i64 (n : Int)) (List.length_map _))) rfl ?_
         refine Vz rfl rfl c4 ?_
         refine Va (Vj rfl) rfl ?_
         refine Vz rfl rfl c4 ?_
         refine Va (Zb rfl rfl) rfl ?_
         refine Va (Vo (congrArg PV.bool c4) rfl) rfl ?_
         refine Va (Vm rfl) rfl ?_
         refine Vz rfl rfl c5 ?_
         refine Va (Vc rfl tf_34_2 ts_22 (by decide)) rfl ?_
         refine Vz rfl rfl c5 ?_
         refine Va (Vf rfl (Vd rfl rfl) rfl ta_22 rfl) rfl ?_
         refine Vz rfl rfl c5 ?_
         refine Va (Xi (Xo rfl rfl te_22) (congrArg (fun n : Nat => PV.int .i64 (n : Int)) (List.length_map _))) rfl ?_
         refine Vz rfl rfl c5 ?_
         refine Va (Vj rfl) rfl ?_
         refine Vz rfl rfl c5 ?_
         refine Va (Zb rfl rfl) rfl ?_
         refine Va (Vo (congrArg PV.bool c5) rfl) rfl ?_
         refine Va (Vm rfl) rfl ?_
         refine Vz rfl rfl c6 ?_
         refine Va (Vc rfl tf_34_3 ts_32 (by decide)) rfl ?_
         refine Vz rfl rfl c6 ?_
         refine Va (Vf rfl (Vd rfl rfl) rfl ta_32 rfl) rfl ?_
         refine Vz rfl rfl c6 ?_
         refine Va (Xi (Xo rfl rfl te_32) (congrArg (fun n : Nat => PV.int .i64 (n : Int)) (List.length_map _))) rfl ?_
         refine Vz rfl rfl c6 ?_
         refine Va (Vj rfl) rfl ?_
         refine Vz rfl rfl c6 ?_
         refine Va (Zb rfl rfl) rfl ?_
         refine Va (Vo (congrArg PV.bool c6) rfl) rfl ?_
         refine Va (Vm rfl) rfl ?_
         refine Vz rfl rfl c7 ?_
         refine Va (Vc rfl tf_34_4 ts_32 (by decide)) rfl ?_
         refine Vz rfl rfl c7 ?_
         refine Va (Vf rfl (Vd rfl rfl) rfl ta_32 rfl) rfl ?_
         refine Vz rfl rfl c7 ?_
         refine Va (Xi (Xo rfl rfl te_32) (congrArg (fun n : Nat => PV.int .i64 (n : Int)) (List.length_map _))) rfl ?_
         refine Vz rfl rfl c7 ?_
         refine Va (Vj rfl) rfl ?_
         refine Vz rfl rfl c7 ?_
         refine Va (Zb rfl rfl) rfl ?_
         refine Va (Vo (congrArg PV.bool c7) rfl) rfl ?_
         refine Va (Vm rfl) rfl ?_
         refine Vz rfl rfl c8 ?_
         refine Va (Vc rfl tf_34_0 ts_3 (by decide)) rfl ?_
         refine Vz rfl rfl c8 ?_
         refine Va (Vf rfl (Vd rfl rfl) rfl ta_3 rfl) rfl ?_
         refine Vz rfl rfl c8 ?_
         refine Va (Zo rfl rfl) rfl ?_
         refine Va (Vo (congrArg PV.bool c8) rfl) rfl ?_
         refine Va (Vm rfl) rfl ?_
         refine Vb rfl rfl (Zh c9) rfl ?_
         refine Vb rfl rfl (Zh c9) rfl ?_
         refine Vb rfl rfl (Zh c9) rfl ?_
         refine Va (Vp (congrArg PV.bool c9) rfl) rfl ?_
         refine Vg ?_
         obtain rfl := Option.some.inj hF
         refine Xv ?_
         exact Vq ⟨rfl, rfl, rfl, rfl, trivial⟩
        ·have hF := Ym c9 hF
         refine Va (Xd rfl) rfl ?_
         refine Vk (Xk rfl Try.call44 (F_ref39_belts_ok h3 _)) rfl ?_
         refine Va (Zn rfl) rfl ?_
         refine Va (Vm rfl) rfl ?_
         refine Vz rfl rfl c4 ?_
         refine Va (Vc rfl tf_34_1 ts_22 (by decide)) rfl ?_
         refine Vz rfl rfl c4 ?_
         refine Va (Vf rfl (Vd rfl rfl) rfl ta_22 rfl) rfl ?_
         refine Vz rfl rfl c4 ?_
         refine Va (Xi (Xo rfl rfl te_22) (congrArg (fun n : Nat => PV.int .i64 (n : Int)) (List.length_map _))) rfl ?_
         refine Vz rfl rfl c4 ?_
         refine Va (Vj rfl) rfl ?_
         refine Vz rfl rfl c4 ?_
         refine Va (Zb rfl rfl) rfl ?_
         refine Va (Vo (congrArg PV.bool c4) rfl) rfl ?_
         refine Va (Vm rfl) rfl ?_
         refine Vz rfl rfl c5 ?_
         refine Va (Vc rfl tf_34_2 ts_22 (by decide)) rfl ?_
         refine Vz rfl rfl c5 ?_
         refine Va (Vf rfl (Vd rfl rfl) rfl ta_22 rfl) rfl ?_
         refine Vz rfl rfl c5 ?_
         refine Va (Xi (Xo rfl rfl te_22) (congrArg (fun n : Nat => PV.int .i64 (n : Int)) (List.length_map _))) rfl ?_
         refine Vz rfl rfl c5 ?_
         refine Va (Vj rfl) rfl ?_
         refine Vz rfl rfl c5 ?_
         refine Va (Zb rfl rfl) rfl ?_
         refine Va (Vo (congrArg PV.bool c5) rfl) rfl ?_
         refine Va (Vm rfl) rfl ?_
         refine Vz rfl rfl c6 ?_
         refine Va (Vc rfl tf_34_3 ts_32 (by decide)) rfl ?_
         refine Vz rfl rfl c6 ?_
         refine Va (Vf rfl (Vd rfl rfl) rfl ta_32 rfl) rfl ?_
         refine Vz rfl rfl c6 ?_
         refine Va (Xi (Xo rfl rfl te_32) (congrArg (fun n : Nat => PV.int .i64 (n : Int)) (List.length_map _))) rfl ?_
         refine Vz rfl rfl c6 ?_
         refine Va (Vj rfl) rfl ?_
         refine Vz rfl rfl c6 ?_
         refine Va (Zb rfl rfl) rfl ?_
         refine Va (Vo (congrArg PV.bool c6) rfl) rfl ?_
         refine Va (Vm rfl) rfl ?_
         refine Vz rfl rfl c7 ?_
         refine Va (Vc rfl tf_34_4 ts_32 (by decide)) rfl ?_
         refine Vz rfl rfl c7 ?_
         refine Va (Vf rfl (Vd rfl rfl) rfl ta_32 rfl) rfl ?_
         refine Vz rfl rfl c7 ?_
         refine Va (Xi (Xo rfl rfl te_32) (congrArg (fun n : Nat => PV.int .i64 (n : Int)) (List.length_map _))) rfl ?_
         refine Vz rfl rfl c7 ?_
         refine Va (Vj rfl) rfl ?_
         refine Vz rfl rfl c7 ?_
         refine Va (Zb rfl rfl) rfl ?_
         refine Va (Vo (congrArg PV.bool c7) rfl) rfl ?_
         refine Va (Vm rfl) rfl ?_
         refine Vz rfl rfl c8 ?_
         refine Va (Vc rfl tf_34_0 ts_3 (by decide)) rfl ?_
         refine Vz rfl rfl c8 ?_
         refine Va (Vf rfl (Vd rfl rfl) rfl ta_3 rfl) rfl ?_
         refine Vz rfl rfl c8 ?_
         refine Va (Zo rfl rfl) rfl ?_
         refine Va (Vo (congrArg PV.bool c8) rfl) rfl ?_
         refine Va (Vm rfl) rfl ?_
         refine Vz rfl rfl c9 ?_
         refine Va (Vc rfl tf_34_0 ts_3 (by decide)) rfl ?_
         refine Vz rfl rfl c9 ?_
         refine Va (Vf rfl (Vd rfl rfl) rfl ta_3 rfl) rfl ?_
         refine Vz rfl rfl c9 ?_
         refine Va (rd_gtr rfl rfl) rfl ?_
         refine Va (Vo (congrArg PV.bool c9) rfl) rfl ?_
         refine Vg ?_
         obtain rfl := Option.some.inj hF
         refine Xv ?_
         exact Vq ⟨rfl, rfl, rfl, rfl, trivial⟩
  ·rintro _ _ _ _ ⟨rfl, hw⟩
   refine ⟨_, _, _, hw, ?_⟩
   refine Xj rfl (fun c10 => ?_) (fun c10 => ?_)
   ·have hF := Yl c10 hF
    refine Vi ?_
    refine Ve ?_
    refine Va (Xy rfl) rfl ?_
    refine Vg ?_
    refine Xb ?_
    obtain rfl := Option.some.inj hF
    refine Zy ?_
    exact Vv rfl [] (by decide) ⟨Vs rfl (.bool _), trivial⟩ trivial
   ·have hF := Ym c10 hF
    refine Xq ?_
    refine Vi ?_
    refine Vi ?_
    refine Ve ?_
    refine Va (Xa rfl) rfl ?_
    refine Vg ?_
    refine Yk ?_
    obtain ⟨o12, ho12, hF⟩ := Ys hF
    refine Vw (Zu (F_ref39_Valid_L1 p0 p1) (fun s11 E' lw lc => Ya E' lw lc [(0, .vs 2 (List.map T_Belt.enc p0)), (3, .ptr (low.length + 0) 0 0 0), (5, .int .i64 ((p0).length : Int)), (6, .int .i64 s11)] low [⟨34, 5, [.agg [.int .i64 p1.Time, .vs 1 (List.map (PV.int .i64) p1.States), .vs 1 (List.map (PV.int .i64) p1.Since), .vs 1 (List.map PV.bool p1.Pulled), .vs 1 (List.map PV.bool p1.Held)]], 0⟩]) (Sum.elim (fun j13 => OnlyE .ret (fun E' lw lc => Ya E' lw lc [(4, .bool false)] low [])) (fun j14 => OnlyE (.exit 0) (fun E' lw lc => Ya E' lw lc [] low []))) ho12 ?_ (by rintro (_|_) _ _ _ ⟨h, _⟩ <;> cases h) ?_) ?_
    ·exact Vq ⟨rfl, rfl, rfl, rfl, trivial⟩
    ·rintro s11 os11 _ _ _ hF hw
     unfold F_ref39_Valid_L1 at hF
     refine Ye hw ?_
     refine Vi ?_
     refine Vi ?_
     refine Ve ?_
     refine Va (Vj rfl) rfl ?_
     refine Va (Vj rfl) rfl ?_
     refine Va (Zo rfl rfl) rfl ?_
     refine Vg ?_
     refine Xj rfl (fun c15 => ?_) (fun c15 => ?_)
     ·have hF := Yl c15 hF
      refine Xq ?_
      refine Vi ?_
      refine Yk ?_
      refine Vi ?_
      refine Ve ?_
      obtain ⟨x16, h17, hF⟩ := Ys hF
      refine Va (Vc rfl tf_34_1 ts_22 (by decide)) rfl ?_
      refine Va (Vf rfl (Vd rfl rfl) rfl ta_22 rfl) rfl ?_
      refine Va (Vj rfl) rfl ?_
      refine Va (Xi (Yj rfl rfl h17 te_22 ts_3) (v' := .vptr [.int .i64 x16] 0) rfl) rfl ?_
      refine Va (Xg rfl ta_3 rfl) rfl ?_
      refine Va (Xa rfl) rfl ?_
      refine Vg ?_
      refine Vi ?_
      refine Vi ?_
      obtain ⟨o18, ho18, hF⟩ := Ys hF
      refine Vw (Q' := (fun o18 => OnlyE .normal (fun E' lw lc => Ya E' lw lc [(0, .vs 2 (List.map T_Belt.enc p0)), (3, .ptr (low.length + 0) 0 0 0), (5, .int .i64 ((p0).length : Int)), (6, .int .i64 s11), (7, .int .i64 x16), (84, .bool o18)] low [⟨34, 5, [.agg [.int .i64 p1.Time, .vs 1 (List.map (PV.int .i64) p1.States), .vs 1 (List.map (PV.int .i64) p1.Since), .vs 1 (List.map PV.bool p1.Pulled), .vs 1 (List.map PV.bool p1.Held)]], 0⟩])) o18) ?_ ?_
      ·replace hF := ho18
       rcases Bool.eq_false_or_eq_true (decide (x16 < 0)) with c19 | c19
       ·have hF := Yl c19 hF
        refine Zf [[], [0], [0, 1], [0, 1, 2], [0, 1, 2, 3], [0, 1, 2, 3, 4], [0, 1, 2, 3, 4, 5], [0, 1, 2, 3, 4, 5, 6], [0, 1, 2, 3, 4, 5, 6, 7], [0, 1, 2, 3, 4, 5, 6], [0, 1, 2, 3, 4, 5, 6, 7, 8, 9], [0, 1, 2, 3, 4, 5, 6, 7, 8, 9, 10], [0, 1, 2, 3, 4, 5, 6, 7, 8, 9, 10, 11], [0, 1, 2, 3, 4, 5, 6, 7, 8, 9, 10, 11, 12], [0, 1, 2, 3, 4, 5, 6, 7, 8, 9, 10, 11, 12, 13], [0, 1, 2, 3, 4, 5, 6, 7, 8, 9, 10, 11, 12, 13, 14], [0, 1, 2, 3, 4, 5, 6, 7, 8, 9, 10, 11, 12, 13, 14, 15], [0, 1, 2, 3, 4, 5, 6, 7, 8, 9, 10, 11, 12, 13, 14], [0, 1, 2, 3, 4, 5, 6, 7, 8, 9, 10, 11, 12, 13, 14, 15, 16, 17], [0, 1, 2, 3, 4, 5, 6, 7, 8, 9, 10, 11, 12, 13, 14, 15, 16, 17, 18], [0, 1, 2, 3, 4, 5, 6, 7, 8, 9, 10, 11, 12, 13, 14], [0, 1, 2, 3, 4, 5, 6, 7, 8, 9, 10, 11, 12, 13, 14, 20], [0, 1, 2, 3, 4, 5, 6, 7, 8, 9, 10, 11, 12, 13, 14, 15, 16, 17, 18, 19, 20, 21], [0, 1, 2, 3, 4, 5, 6, 7, 8, 9, 10, 11, 12, 13, 14, 15, 16, 17, 18, 19, 20, 21, 22]] mixed (by kernel_rfl) rfl ?_
        refine Yn rfl rfl (Vj rfl) ?_
        refine Yn rfl rfl (Zo rfl rfl) ?_
        refine Yn rfl rfl (Vm rfl) ?_
        refine Vn rfl rfl rfl (Zh c19) ?_
        refine Vn rfl rfl rfl (Zh c19) ?_
        refine Yn rfl rfl (Vp (congrArg PV.bool c19) rfl) ?_
        refine Yn rfl rfl (Vm rfl) ?_
        refine Vn rfl rfl rfl (by decide) ?_
        refine Vn rfl rfl rfl (by decide) ?_
        refine Vn rfl rfl rfl (by decide) ?_
        refine Vn rfl rfl rfl (by decide) ?_
        refine Vn rfl rfl rfl (by decide) ?_
        refine Vn rfl rfl rfl (by decide) ?_
        refine Yn rfl rfl (Vp rfl rfl) ?_
        refine Yn rfl rfl (Vm rfl) ?_
        refine Vn rfl rfl rfl (by decide) ?_
        refine Vn rfl rfl rfl (by decide) ?_
        refine Vn rfl rfl rfl (by decide) ?_
        refine Vn rfl rfl rfl (by decide) ?_
        refine Vn rfl rfl rfl (by decide) ?_
        refine Vn rfl rfl rfl (by decide) ?_
        refine Vn rfl rfl rfl (by decide) ?_
        refine Vn rfl rfl rfl (by decide) ?_
        refine Yn rfl rfl (Vp rfl rfl) ?_
        refine Yz ?_
        obtain rfl := Option.some.inj hF
        refine Xv ?_
        exact Vq ⟨rfl, rfl, rfl, rfl, rfl, rfl, trivial⟩
       ·have hF := Ym c19 hF
        rcases Bool.eq_false_or_eq_true (decide (2 < x16)) with c20 | c20
        ·have hF := Yl c20 hF
         refine Zf [[], [0], [0, 1], [0, 1, 2], [0, 1, 2, 3], [0, 1, 2, 3, 4], [0, 1, 2, 3, 4, 5], [0, 1, 2, 3, 4, 5, 6], [0, 1, 2, 3, 4, 5, 6, 7], [0, 1, 2, 3, 4, 5, 6], [0, 1, 2, 3, 4, 5, 6, 7, 8, 9], [0, 1, 2, 3, 4, 5, 6, 7, 8, 9, 10], [0, 1, 2, 3, 4, 5, 6, 7, 8, 9, 10, 11], [0, 1, 2, 3, 4, 5, 6, 7, 8, 9, 10, 11, 12], [0, 1, 2, 3, 4, 5, 6, 7, 8, 9, 10, 11, 12, 13], [0, 1, 2, 3, 4, 5, 6, 7, 8, 9, 10, 11, 12, 13, 14], [0, 1, 2, 3, 4, 5, 6, 7, 8, 9, 10, 11, 12, 13, 14, 15], [0, 1, 2, 3, 4, 5, 6, 7, 8, 9, 10, 11, 12, 13, 14], [0, 1, 2, 3, 4, 5, 6, 7, 8, 9, 10, 11, 12, 13, 14, 15, 16, 17], [0, 1, 2, 3, 4, 5, 6, 7, 8, 9, 10, 11, 12, 13, 14, 15, 16, 17, 18], [0, 1, 2, 3, 4, 5, 6, 7, 8, 9, 10, 11, 12, 13, 14], [0, 1, 2, 3, 4, 5, 6, 7, 8, 9, 10, 11, 12, 13, 14, 20], [0, 1, 2, 3, 4, 5, 6, 7, 8, 9, 10, 11, 12, 13, 14, 15, 16, 17, 18, 19, 20, 21], [0, 1, 2, 3, 4, 5, 6, 7, 8, 9, 10, 11, 12, 13, 14, 15, 16, 17, 18, 19, 20, 21, 22]] mixed (by kernel_rfl) rfl ?_
         refine Yn rfl rfl (Vj rfl) ?_
         refine Yn rfl rfl (Zo rfl rfl) ?_
         refine Yn rfl rfl (Vm rfl) ?_
         refine Zk rfl rfl rfl rfl c19 (Vj rfl) ?_
         refine Zk rfl rfl rfl rfl c19 (rd_gtr rfl rfl) ?_
         refine Yn rfl rfl (Vo (congrArg PV.bool c19) rfl) ?_
         refine Yn rfl rfl (Vm rfl) ?_
         refine Vn rfl rfl rfl (Zh c20) ?_
         refine Vn rfl rfl rfl (Zh c20) ?_
         refine Vn rfl rfl rfl (Zh c20) ?_
         refine Vn rfl rfl rfl (Zh c20) ?_
         refine Vn rfl rfl rfl (Zh c20) ?_
         refine Vn rfl rfl rfl (Zh c20) ?_
         refine Yn rfl rfl (Vp (congrArg PV.bool c20) rfl) ?_
         refine Yn rfl rfl (Vm rfl) ?_
         refine Vn rfl rfl rfl (by decide) ?_
         refine Vn rfl rfl rfl (by decide) ?_
         refine Vn rfl rfl rfl (by decide) ?_
         refine Vn rfl rfl rfl (by decide) ?_
         refine Vn rfl rfl rfl (by decide) ?_
         refine Vn rfl rfl rfl (by decide) ?_
         refine Vn rfl rfl rfl (by decide) ?_
         refine Vn rfl rfl rfl (by decide) ?_
         refine Yn rfl rfl (Vp rfl rfl) ?_
         refine Yz ?_
         obtain rfl := Option.some.inj hF
         refine Xv ?_
         exact Vq ⟨rfl, rfl, rfl, rfl, rfl, rfl, trivial⟩
        ·have hF := Ym c20 hF
         obtain ⟨x21, h22, hF⟩ := Ys hF
         rcases Bool.eq_false_or_eq_true (decide (x21 < 0)) with c23 | c23
         ·have hF := Yl c23 hF
          refine Zf [[], [0], [0, 1], [0, 1, 2], [0, 1, 2, 3], [0, 1, 2, 3, 4], [0, 1, 2, 3, 4, 5], [0, 1, 2, 3, 4, 5, 6], [0, 1, 2, 3, 4, 5, 6, 7], [0, 1, 2, 3, 4, 5, 6], [0, 1, 2, 3, 4, 5, 6, 7, 8, 9], [0, 1, 2, 3, 4, 5, 6, 7, 8, 9, 10], [0, 1, 2, 3, 4, 5, 6, 7, 8, 9, 10, 11], [0, 1, 2, 3, 4, 5, 6, 7, 8, 9, 10, 11, 12], [0, 1, 2, 3, 4, 5, 6, 7, 8, 9, 10, 11, 12, 13], [0, 1, 2, 3, 4, 5, 6, 7, 8, 9, 10, 11, 12, 13, 14], [0, 1, 2, 3, 4, 5, 6, 7, 8, 9, 10, 11, 12, 13, 14, 15], [0, 1, 2, 3, 4, 5, 6, 7, 8, 9, 10, 11, 12, 13, 14], [0, 1, 2, 3, 4, 5, 6, 7, 8, 9, 10, 11, 12, 13, 14, 15, 16, 17], [0, 1, 2, 3, 4, 5, 6, 7, 8, 9, 10, 11, 12, 13, 14, 15, 16, 17, 18], [0, 1, 2, 3, 4, 5, 6, 7, 8, 9, 10, 11, 12, 13, 14], [0, 1, 2, 3, 4, 5, 6, 7, 8, 9, 10, 11, 12, 13, 14, 20], [0, 1, 2, 3, 4, 5, 6, 7, 8, 9, 10, 11, 12, 13, 14, 15, 16, 17, 18, 19, 20, 21], [0, 1, 2, 3, 4, 5, 6, 7, 8, 9, 10, 11, 12, 13, 14, 15, 16, 17, 18, 19, 20, 21, 22]] mixed (by kernel_rfl) rfl ?_
          refine Yn rfl rfl (Vj rfl) ?_
          refine Yn rfl rfl (Zo rfl rfl) ?_
          refine Yn rfl rfl (Vm rfl) ?_
          refine Zk rfl rfl rfl rfl c19 (Vj rfl) ?_
          refine Zk rfl rfl rfl rfl c19 (rd_gtr rfl rfl) ?_
          refine Yn rfl rfl (Vo (congrArg PV.bool c19) rfl) ?_
          refine Yn rfl rfl (Vm rfl) ?_
          refine Zk rfl rfl rfl rfl c20 (Vc rfl tf_34_2 ts_22 (by decide)) ?_
          refine Zk rfl rfl rfl rfl c20 (Vf rfl (Vd rfl rfl) rfl ta_22 rfl) ?_
          refine Zk rfl rfl rfl rfl c20 (Vj rfl) ?_
          refine Zk rfl rfl rfl rfl c20 (Xi (Yj rfl rfl h22 te_22 ts_3) (v' := .vptr [.int .i64 x21] 0) rfl) ?_
          refine Zk rfl rfl rfl rfl c20 (Xg rfl ta_3 rfl) ?_
          refine Zk rfl rfl rfl rfl c20 (Zo rfl rfl) ?_
          refine Yn rfl rfl (Vo (congrArg PV.bool c20) rfl) ?_
          refine Yn rfl rfl (Vm rfl) ?_
          refine Vn rfl rfl rfl (Zh c23) ?_
          refine Vn rfl rfl rfl (Zh c23) ?_
          refine Vn rfl rfl rfl (Zh c23) ?_
          refine Vn rfl rfl rfl (Zh c23) ?_
          refine Vn rfl rfl rfl (Zh c23) ?_
          refine Vn rfl rfl rfl (Zh c23) ?_
          refine Vn rfl rfl rfl (Zh c23) ?_
          refine Vn rfl rfl rfl (Zh c23) ?_
          refine Yn rfl rfl (Vp (congrArg PV.bool c23) rfl) ?_
          refine Yz ?_
          obtain rfl := Option.some.inj hF
          refine Xv ?_
          exact Vq ⟨rfl, rfl, rfl, rfl, rfl, rfl, trivial⟩
         ·have hF := Ym c23 hF
          obtain ⟨x24, h25, hF⟩ := Ys hF
          refine Zf [[], [0], [0, 1], [0, 1, 2], [0, 1, 2, 3], [0, 1, 2, 3, 4], [0, 1, 2, 3, 4, 5], [0, 1, 2, 3, 4, 5, 6], [0, 1, 2, 3, 4, 5, 6, 7], [0, 1, 2, 3, 4, 5, 6], [0, 1, 2, 3, 4, 5, 6, 7, 8, 9], [0, 1, 2, 3, 4, 5, 6, 7, 8, 9, 10], [0, 1, 2, 3, 4, 5, 6, 7, 8, 9, 10, 11], [0, 1, 2, 3, 4, 5, 6, 7, 8, 9, 10, 11, 12], [0, 1, 2, 3, 4, 5, 6, 7, 8, 9, 10, 11, 12, 13], [0, 1, 2, 3, 4, 5, 6, 7, 8, 9, 10, 11, 12, 13, 14], [0, 1, 2, 3, 4, 5, 6, 7, 8, 9, 10, 11, 12, 13, 14, 15], [0, 1, 2, 3, 4, 5, 6, 7, 8, 9, 10, 11, 12, 13, 14], [0, 1, 2, 3, 4, 5, 6, 7, 8, 9, 10, 11, 12, 13, 14, 15, 16, 17], [0, 1, 2, 3, 4, 5, 6, 7, 8, 9, 10, 11, 12, 13, 14, 15, 16, 17, 18], [0, 1, 2, 3, 4, 5, 6, 7, 8, 9, 10, 11, 12, 13, 14], [0, 1, 2, 3, 4, 5, 6, 7, 8, 9, 10, 11, 12, 13, 14, 20], [0, 1, 2, 3, 4, 5, 6, 7, 8, 9, 10, 11, 12, 13, 14, 15, 16, 17, 18, 19, 20, 21], [0, 1, 2, 3, 4, 5, 6, 7, 8, 9, 10, 11, 12, 13, 14, 15, 16, 17, 18, 19, 20, 21, 22]] mixed (by kernel_rfl) rfl ?_
          refine Yn rfl rfl (Vj rfl) ?_
          refine Yn rfl rfl (Zo rfl rfl) ?_
          refine Yn rfl rfl (Vm rfl) ?_
          refine Zk rfl rfl rfl rfl c19 (Vj rfl) ?_
          refine Zk rfl rfl rfl rfl c19 (rd_gtr rfl rfl) ?_
          refine Yn rfl rfl (Vo (congrArg PV.bool c19) rfl) ?_
          refine Yn rfl rfl (Vm rfl) ?_
          refine Zk rfl rfl rfl rfl c20 (Vc rfl tf_34_2 ts_22 (by decide)) ?_
          refine Zk rfl rfl rfl rfl c20 (Vf rfl (Vd rfl rfl) rfl ta_22 rfl) ?_
          refine Zk rfl rfl rfl rfl c20 (Vj rfl) ?_
          refine Zk rfl rfl rfl rfl c20 (Xi (Yj rfl rfl h22 te_22 ts_3) (v' := .vptr [.int .i64 x21] 0) rfl) ?_
          refine Zk rfl rfl rfl rfl c20 (Xg rfl ta_3 rfl) ?_
          refine Zk rfl rfl rfl rfl c20 (Zo rfl rfl) ?_
          refine Yn rfl rfl (Vo (congrArg PV.bool c20) rfl) ?_
          refine Yn rfl rfl (Vm rfl) ?_
          refine Zk rfl rfl rfl rfl c23 (Vc rfl tf_34_2 ts_22 (by decide)) ?_
          refine Zk rfl rfl rfl rfl c23 (Vf rfl (Vd rfl rfl) rfl ta_22 rfl) ?_
          refine Zk rfl rfl rfl rfl c23 (Vj rfl) ?_
          refine Zk rfl rfl rfl rfl c23 (Xi (Yj rfl rfl h25 te_22 ts_3) (v' := .vptr [.int .i64 x24] 0) rfl) ?_
          refine Zk rfl rfl rfl rfl c23 (Xg rfl ta_3 rfl) ?_
          refine Zk rfl rfl rfl rfl c23 (Vc rfl tf_34_0 ts_3 (by decide)) ?_
          refine Zk rfl rfl rfl rfl c23 (Vf rfl (Vd rfl rfl) rfl ta_3 rfl) ?_
          refine Zk rfl rfl rfl rfl c23 (rd_gtr rfl rfl) ?_
          refine Yn rfl rfl (Vo (congrArg PV.bool c23) rfl) ?_
          refine Yz ?_
          obtain rfl := Option.some.inj hF
          refine Xv ?_
          exact Vq ⟨rfl, rfl, rfl, rfl, rfl, rfl, trivial⟩
      ·rintro _ _ _ _ ⟨rfl, hw⟩
       refine ⟨_, _, _, hw, ?_⟩
       refine Xj rfl (fun c26 => ?_) (fun c26 => ?_)
       ·have hF := Yl c26 hF
        refine Vi ?_
        refine Ve ?_
        refine Va (Xy rfl) rfl ?_
        refine Vg ?_
        refine Xb ?_
        obtain rfl := Option.some.inj hF
        refine Xv ?_
        exact Vv rfl [] (by decide) ⟨Vs rfl (.bool _), trivial⟩ trivial
       ·have hF := Ym c26 hF
        refine Xq ?_
        refine Vi ?_
        obtain ⟨o27, ho27, hF⟩ := Ys hF
        refine Vw (Q' := (fun o27 => OnlyE .normal (fun E' lw lc => Ya E' lw lc [(0, .vs 2 (List.map T_Belt.enc p0)), (3, .ptr (low.length + 0) 0 0 0), (5, .int .i64 ((p0).length : Int)), (6, .int .i64 s11), (120, .bool o27)] low [⟨34, 5, [.agg [.int .i64 p1.Time, .vs 1 (List.map (PV.int .i64) p1.States), .vs 1 (List.map (PV.int .i64) p1.Since), .vs 1 (List.map PV.bool p1.Pulled), .vs 1 (List.map PV.bool p1.Held)]], 0⟩])) o27) ?_ ?_
        ·replace hF := ho27
         rcases Bool.eq_false_or_eq_true (decide (x16 ≠ 0)) with c28 | c28
         ·have hF := Yl c28 hF
          obtain ⟨x29, h30, hF⟩ := Ys hF
          rcases Bool.eq_false_or_eq_true x29 with c31 | c31
          ·have hF := Yl c31 hF
           refine Zf [[], [0], [0, 1], [0, 1, 2], [0, 1, 2, 3], [0, 1, 2], [0, 1, 2, 3, 4, 5], [0, 1, 2, 3, 4, 5, 6], [0, 1, 2, 3, 4, 5, 6, 7], [0, 1, 2, 3, 4, 5, 6, 7, 8], [0, 1, 2, 3, 4, 5, 6, 7, 8, 9], [0, 1, 2, 3, 4, 5, 6, 7, 8], [0, 1, 2, 3, 4, 5, 6, 7, 8, 9, 10, 11], [0, 1, 2, 3, 4, 5, 6, 7, 8, 9, 10, 11, 12], [0, 1, 2, 3, 4, 5, 6, 7, 8, 9, 10, 11, 12, 13], [0, 1, 2, 3, 4, 5, 6, 7, 8, 9, 10, 11, 12, 13, 14], [0, 1, 2, 3, 4, 5, 6, 7, 8, 9, 10, 11, 12, 13, 14, 15], [0, 1, 2, 3, 4, 5, 6, 7, 8, 9, 10, 11, 12, 13, 14, 15], [0, 1, 2, 3, 4, 5, 6, 7, 8, 9, 10, 11, 12, 13, 14, 15, 16, 17], [0, 1, 2, 3, 4, 5, 6, 7, 8, 9, 10, 11, 12, 13, 14, 15, 16, 17, 18], [0, 1, 2, 3, 4, 5, 6, 7, 8, 9, 10, 11, 12, 13, 14, 15, 16, 17, 18, 19], [0, 1, 2, 3, 4, 5, 6, 7, 8, 9, 10, 11, 12, 13, 14, 15, 16, 17, 18, 19, 20], [0, 1, 2, 3, 4, 5, 6, 7, 8, 9, 10, 11, 12, 13, 14, 15, 16, 17, 18, 19, 20, 21], [0, 1, 2, 3, 4, 5, 6, 7, 8, 9, 10, 11, 12, 13, 14, 15, 16, 17, 18, 19, 20, 21, 22], [0, 1, 2, 3, 4, 5, 6, 7, 8, 9, 10, 11, 12, 13, 14, 15, 16, 17, 18, 19, 20, 21, 22, 23], [0, 1, 2, 3, 4, 5, 6, 7, 8, 9, 10, 11, 12, 13, 14, 15, 16, 17, 18, 19, 20, 21, 22], [0, 1, 2, 3, 4, 5, 6, 7, 8, 9, 10, 11, 12, 13, 14, 15, 16, 17, 18, 19, 20, 21, 22], [0, 1, 2, 3, 4, 5, 6, 7, 8, 9, 10, 11, 12, 13, 14, 15, 16, 17, 18, 19, 20, 21, 22, 25, 26], [0, 1, 2, 3, 4, 5, 6, 7, 8, 9, 10, 11, 12, 13, 14, 15, 16, 17, 18, 19, 20, 21, 22, 25, 26, 27], [0, 1, 2, 3, 4, 5, 6, 7, 8, 9, 10, 11, 12, 13, 14, 15, 16, 17, 18, 19, 20, 21, 22, 25, 26, 27, 28], [0, 1, 2, 3, 4, 5, 6, 7, 8, 9, 10, 11, 12, 13, 14, 15, 16, 17, 18, 19, 20, 21, 22, 23, 24, 25, 26, 27, 28, 29], [0, 1, 2, 3, 4, 5, 6, 7, 8, 9, 10, 11, 12, 13, 14, 15, 16, 17, 18, 19, 20, 21, 22, 23, 24, 25, 26, 27, 28, 29, 30], [0, 1, 2, 3, 4, 5, 6, 7, 8, 9, 10, 11, 12, 13, 14, 15, 16, 17, 18, 19, 20, 21, 22, 23, 24, 25, 26, 27, 28, 29, 30, 31], [0, 1, 2, 3, 4, 5, 6, 7, 8, 9, 10, 11, 12, 13, 14, 15, 16, 17, 18, 19, 20, 21, 22, 23, 24, 25, 26, 27, 28, 29, 30, 31, 32], [0, 1, 2, 3, 4, 5, 6, 7, 8, 9, 10, 11, 12, 13, 14, 15, 16, 17, 18, 19, 20, 21, 22, 23, 24, 25, 26, 27, 28, 29, 30, 31, 32, 33], [0, 1, 2, 3, 4, 5, 6, 7, 8, 9, 10, 11, 12, 13, 14, 15, 16, 17, 18, 19, 20, 21, 22, 23, 24, 25, 26, 27, 28, 29, 30, 31, 32, 33, 34]] mixed (by kernel_rfl) rfl ?_
           refine Yn rfl rfl (Vj rfl) ?_
           refine Yn rfl rfl (Zb rfl rfl) ?_
           refine Yn rfl rfl (Vm rfl) ?_
           refine Zk rfl rfl rfl rfl c28 (Vc rfl tf_34_3 ts_32 (by decide)) ?_
           refine Zk rfl rfl rfl rfl c28 (Vf rfl (Vd rfl rfl) rfl ta_32 rfl) ?_
           refine Zk rfl rfl rfl rfl c28 (Vj rfl) ?_
           refine Zk rfl rfl rfl rfl c28 (Xi (Yj rfl rfl h30 te_32 ts_4) (v' := .vptr [.bool x29] 0) rfl) ?_
           refine Zk rfl rfl rfl rfl c28 (Xg rfl ta_4 rfl) ?_
           refine Zk rfl rfl rfl rfl c28 (Vm rfl) ?_
           refine Vn rfl rfl rfl (Zh c31) ?_
           refine Vn rfl rfl rfl (Zh c31) ?_
           refine Vn rfl rfl rfl (Zh c31) ?_
           refine Vn rfl rfl rfl (Zh c31) ?_
           refine Vn rfl rfl rfl (Zh c31) ?_
           refine Zk rfl rfl rfl rfl c28 (Vp (congrArg PV.bool c31) rfl) ?_
           refine Zk rfl rfl rfl rfl c28 (Vm rfl) ?_
           refine Vn rfl rfl rfl (by decide) ?_
           refine Vn rfl rfl rfl (by decide) ?_
           refine Vn rfl rfl rfl (by decide) ?_
           refine Vn rfl rfl rfl (by decide) ?_
           refine Vn rfl rfl rfl (by decide) ?_
           refine Vn rfl rfl rfl (by decide) ?_
           refine Vn rfl rfl rfl (by decide) ?_
           refine Yd rfl rfl rfl ?_
           refine Yd rfl rfl rfl ?_
           refine Yd rfl rfl rfl ?_
           refine Yd rfl rfl rfl ?_
           refine Yd rfl rfl rfl ?_
           refine Yd rfl rfl rfl ?_
           refine Yd rfl rfl rfl ?_
           refine Yd rfl rfl rfl ?_
           refine Yd rfl rfl rfl ?_
           refine Yd rfl rfl rfl ?_
           refine Vn rfl rfl rfl (by decide) ?_
           refine Zk rfl rfl rfl rfl c28 (Vp rfl rfl) ?_
           refine Yn rfl rfl (Vp (congrArg PV.bool c28) rfl) ?_
           refine Yz ?_
           obtain rfl := Option.some.inj hF
           refine Xv ?_
           exact Vq ⟨rfl, rfl, rfl, rfl, rfl, trivial⟩
          ·have hF := Ym c31 hF
           obtain ⟨x32, h33, hF⟩ := Ys hF
           rcases Bool.eq_false_or_eq_true x32 with c34 | c34
           ·have hF := Yl c34 hF
            refine Zf [[], [0], [0, 1], [0, 1, 2], [0, 1, 2, 3], [0, 1, 2], [0, 1, 2, 3, 4, 5], [0, 1, 2, 3, 4, 5, 6], [0, 1, 2, 3, 4, 5, 6, 7], [0, 1, 2, 3, 4, 5, 6, 7, 8], [0, 1, 2, 3, 4, 5, 6, 7, 8, 9], [0, 1, 2, 3, 4, 5, 6, 7, 8], [0, 1, 2, 3, 4, 5, 6, 7, 8, 9, 10, 11], [0, 1, 2, 3, 4, 5, 6, 7, 8, 9, 10, 11, 12], [0, 1, 2, 3, 4, 5, 6, 7, 8, 9, 10, 11, 12, 13], [0, 1, 2, 3, 4, 5, 6, 7, 8, 9, 10, 11, 12, 13, 14], [0, 1, 2, 3, 4, 5, 6, 7, 8, 9, 10, 11, 12, 13, 14, 15], [0, 1, 2, 3, 4, 5, 6, 7, 8, 9, 10, 11, 12, 13, 14, 15], [0, 1, 2, 3, 4, 5, 6, 7, 8, 9, 10, 11, 12, 13, 14, 15, 16, 17], [0, 1, 2, 3, 4, 5, 6, 7, 8, 9, 10, 11, 12, 13, 14, 15, 16, 17, 18], [0, 1, 2, 3, 4, 5, 6, 7, 8, 9, 10, 11, 12, 13, 14, 15, 16, 17, 18, 19], [0, 1, 2, 3, 4, 5, 6, 7, 8, 9, 10, 11, 12, 13, 14, 15, 16, 17, 18, 19, 20], [0, 1, 2, 3, 4, 5, 6, 7, 8, 9, 10, 11, 12, 13, 14, 15, 16, 17, 18, 19, 20, 21], [0, 1, 2, 3, 4, 5, 6, 7, 8, 9, 10, 11, 12, 13, 14, 15, 16, 17, 18, 19, 20, 21, 22], [0, 1, 2, 3, 4, 5, 6, 7, 8, 9, 10, 11, 12, 13, 14, 15, 16, 17, 18, 19, 20, 21, 22, 23], [0, 1, 2, 3, 4, 5, 6, 7, 8, 9, 10, 11, 12, 13, 14, 15, 16, 17, 18, 19, 20, 21, 22], [0, 1, 2, 3, 4, 5, 6, 7, 8, 9, 10, 11, 12, 13, 14, 15, 16, 17, 18, 19, 20, 21, 22], [0, 1, 2, 3, 4, 5, 6, 7, 8, 9, 10, 11, 12, 13, 14, 15, 16, 17, 18, 19, 20, 21, 22, 25, 26], [0, 1, 2, 3, 4, 5, 6, 7, 8, 9, 10, 11, 12, 13, 14, 15, 16, 17, 18, 19, 20, 21, 22, 25, 26, 27], [0, 1, 2, 3, 4, 5, 6, 7, 8, 9, 10, 11, 12, 13, 14, 15, 16, 17, 18, 19, 20, 21, 22, 25, 26, 27, 28], [0, 1, 2, 3, 4, 5, 6, 7, 8, 9, 10, 11, 12, 13, 14, 15, 16, 17, 18, 19, 20, 21, 22, 23, 24, 25, 26, 27, 28, 29], [0, 1, 2, 3, 4, 5, 6, 7, 8, 9, 10, 11, 12, 13, 14, 15, 16, 17, 18, 19, 20, 21, 22, 23, 24, 25, 26, 27, 28, 29, 30], [0, 1, 2, 3, 4, 5, 6, 7, 8, 9, 10, 11, 12, 13, 14, 15, 16, 17, 18, 19, 20, 21, 22, 23, 24, 25, 26, 27, 28, 29, 30, 31], [0, 1, 2, 3, 4, 5, 6, 7, 8, 9, 10, 11, 12, 13, 14, 15, 16, 17, 18, 19, 20, 21, 22, 23, 24, 25, 26, 27, 28, 29, 30, 31, 32], [0, 1, 2, 3, 4, 5, 6, 7, 8, 9, 10, 11, 12, 13, 14, 15, 16, 17, 18, 19, 20, 21, 22, 23, 24, 25, 26, 27, 28, 29, 30, 31, 32, 33], [0, 1, 2, 3, 4, 5, 6, 7, 8, 9, 10, 11, 12, 13, 14, 15, 16, 17, 18, 19, 20, 21, 22, 23, 24, 25, 26, 27, 28, 29, 30, 31, 32, 33, 34]] mixed (by kernel_rfl) rfl ?_
            refine Yn rfl rfl (Vj rfl) ?_
            refine Yn rfl rfl (Zb rfl rfl) ?_
            refine Yn rfl rfl (Vm rfl) ?_
            refine Zk rfl rfl rfl rfl c28 (Vc rfl tf_34_3 ts_32 (by decide)) ?_
            refine Zk rfl rfl rfl rfl c28 (Vf rfl (Vd rfl rfl) rfl ta_32 rfl) ?_
            refine Zk rfl rfl rfl rfl c28 (Vj rfl) ?_
            refine Zk rfl rfl rfl rfl c28 (Xi (Yj rfl rfl h30 te_32 ts_4) (v' := .vptr [.bool x29] 0) rfl) ?_
            refine Zk rfl rfl rfl rfl c28 (Xg rfl ta_4 rfl) ?_
            refine Zk rfl rfl rfl rfl c28 (Vm rfl) ?_
            refine Zk rfl rfl rfl rfl c31 (Vc rfl tf_34_4 ts_32 (by decide)) ?_
            refine Zk rfl rfl rfl rfl c31 (Vf rfl (Vd rfl rfl) rfl ta_32 rfl) ?_
            refine Zk rfl rfl rfl rfl c31 (Vj rfl) ?_
            refine Zk rfl rfl rfl rfl c31 (Xi (Yj rfl rfl h33 te_32 ts_4) (v' := .vptr [.bool x32] 0) rfl) ?_
            refine Zk rfl rfl rfl rfl c31 (Xg rfl ta_4 rfl) ?_
            refine Zk rfl rfl rfl rfl c28 (Vo (congrArg PV.bool c31) rfl) ?_
            refine Zk rfl rfl rfl rfl c28 (Vm rfl) ?_
            refine Vn rfl rfl rfl (Zh c34) ?_
            refine Vn rfl rfl rfl (Zh c34) ?_
            refine Vn rfl rfl rfl (Zh c34) ?_
            refine Vn rfl rfl rfl (Zh c34) ?_
            refine Vn rfl rfl rfl (Zh c34) ?_
            refine Vn rfl rfl rfl (Zh c34) ?_
            refine Vn rfl rfl rfl (Zh c34) ?_
            refine Yd rfl rfl rfl ?_
            refine Yd rfl rfl rfl ?_
            refine Yd rfl rfl rfl ?_
            refine Yd rfl rfl rfl ?_
            refine Yd rfl rfl rfl ?_
            refine Yd rfl rfl rfl ?_
            refine Yd rfl rfl rfl ?_
            refine Yd rfl rfl rfl ?_
            refine Yd rfl rfl rfl ?_
            refine Yd rfl rfl rfl ?_
            refine Vn rfl rfl rfl (Zh c34) ?_
            refine Zk rfl rfl rfl rfl c28 (Vp (congrArg PV.bool c34) rfl) ?_
            refine Yn rfl rfl (Vp (congrArg PV.bool c28) rfl) ?_
            refine Yz ?_
            obtain rfl := Option.some.inj hF
            refine Xv ?_
            exact Vq ⟨rfl, rfl, rfl, rfl, rfl, trivial⟩
           ·have hF := Ym c34 hF
            obtain ⟨x35, h36, hF⟩ := Ys hF
            rcases Bool.eq_false_or_eq_true (decide (0 ≤ x35.Onto)) with c37 | c37
            ·have hF := Yl c37 hF
             obtain ⟨x38, h39, hF⟩ := Ys hF
             obtain ⟨x40, h41, hF⟩ := Ys hF
             refine Zf [[], [0], [0, 1], [0, 1, 2], [0, 1, 2, 3], [0, 1, 2], [0, 1, 2, 3, 4, 5], [0, 1, 2, 3, 4, 5, 6], [0, 1, 2, 3, 4, 5, 6, 7], [0, 1, 2, 3, 4, 5, 6, 7, 8], [0, 1, 2, 3, 4, 5, 6, 7, 8, 9], [0, 1, 2, 3, 4, 5, 6, 7, 8], [0, 1, 2, 3, 4, 5, 6, 7, 8, 9, 10, 11], [0, 1, 2, 3, 4, 5, 6, 7, 8, 9, 10, 11, 12], [0, 1, 2, 3, 4, 5, 6, 7, 8, 9, 10, 11, 12, 13], [0, 1, 2, 3, 4, 5, 6, 7, 8, 9, 10, 11, 12, 13, 14], [0, 1, 2, 3, 4, 5, 6, 7, 8, 9, 10, 11, 12, 13, 14, 15], [0, 1, 2, 3, 4, 5, 6, 7, 8, 9, 10, 11, 12, 13, 14, 15], [0, 1, 2, 3, 4, 5, 6, 7, 8, 9, 10, 11, 12, 13, 14, 15, 16, 17], [0, 1, 2, 3, 4, 5, 6, 7, 8, 9, 10, 11, 12, 13, 14, 15, 16, 17, 18], [0, 1, 2, 3, 4, 5, 6, 7, 8, 9, 10, 11, 12, 13, 14, 15, 16, 17, 18, 19], [0, 1, 2, 3, 4, 5, 6, 7, 8, 9, 10, 11, 12, 13, 14, 15, 16, 17, 18, 19, 20], [0, 1, 2, 3, 4, 5, 6, 7, 8, 9, 10, 11, 12, 13, 14, 15, 16, 17, 18, 19, 20, 21], [0, 1, 2, 3, 4, 5, 6, 7, 8, 9, 10, 11, 12, 13, 14, 15, 16, 17, 18, 19, 20, 21, 22], [0, 1, 2, 3, 4, 5, 6, 7, 8, 9, 10, 11, 12, 13, 14, 15, 16, 17, 18, 19, 20, 21, 22, 23], [0, 1, 2, 3, 4, 5, 6, 7, 8, 9, 10, 11, 12, 13, 14, 15, 16, 17, 18, 19, 20, 21, 22], [0, 1, 2, 3, 4, 5, 6, 7, 8, 9, 10, 11, 12, 13, 14, 15, 16, 17, 18, 19, 20, 21, 22], [0, 1, 2, 3, 4, 5, 6, 7, 8, 9, 10, 11, 12, 13, 14, 15, 16, 17, 18, 19, 20, 21, 22, 25, 26], [0, 1, 2, 3, 4, 5, 6, 7, 8, 9, 10, 11, 12, 13, 14, 15, 16, 17, 18, 19, 20, 21, 22, 25, 26, 27], [0, 1, 2, 3, 4, 5, 6, 7, 8, 9, 10, 11, 12, 13, 14, 15, 16, 17, 18, 19, 20, 21, 22, 25, 26, 27, 28], [0, 1, 2, 3, 4, 5, 6, 7, 8, 9, 10, 11, 12, 13, 14, 15, 16, 17, 18, 19, 20, 21, 22, 23, 24, 25, 26, 27, 28, 29], [0, 1, 2, 3, 4, 5, 6, 7, 8, 9, 10, 11, 12, 13, 14, 15, 16, 17, 18, 19, 20, 21, 22, 23, 24, 25, 26, 27, 28, 29, 30], [0, 1, 2, 3, 4, 5, 6, 7, 8, 9, 10, 11, 12, 13, 14, 15, 16, 17, 18, 19, 20, 21, 22, 23, 24, 25, 26, 27, 28, 29, 30, 31], [0, 1, 2, 3, 4, 5, 6, 7, 8, 9, 10, 11, 12, 13, 14, 15, 16, 17, 18, 19, 20, 21, 22, 23, 24, 25, 26, 27, 28, 29, 30, 31, 32], [0, 1, 2, 3, 4, 5, 6, 7, 8, 9, 10, 11, 12, 13, 14, 15, 16, 17, 18, 19, 20, 21, 22, 23, 24, 25, 26, 27, 28, 29, 30, 31, 32, 33], [0, 1, 2, 3, 4, 5, 6, 7, 8, 9, 10, 11, 12, 13, 14, 15, 16, 17, 18, 19, 20, 21, 22, 23, 24, 25, 26, 27, 28, 29, 30, 31, 32, 33, 34]] mixed (by kernel_rfl) rfl ?_
             refine Yn rfl rfl (Vj rfl) ?_
             refine Yn rfl rfl (Zb rfl rfl) ?_
             refine Yn rfl rfl (Vm rfl) ?_
             refine Zk rfl rfl rfl rfl c28 (Vc rfl tf_34_3 ts_32 (by decide)) ?_
             refine Zk rfl rfl rfl rfl c28 (Vf rfl (Vd rfl rfl) rfl ta_32 rfl) ?_
             refine Zk rfl rfl rfl rfl c28 (Vj rfl) ?_
             refine Zk rfl rfl rfl rfl c28 (Xi (Yj rfl rfl h30 te_32 ts_4) (v' := .vptr [.bool x29] 0) rfl) ?_
             refine Zk rfl rfl rfl rfl c28 (Xg rfl ta_4 rfl) ?_
             refine Zk rfl rfl rfl rfl c28 (Vm rfl) ?_
             refine Zk rfl rfl rfl rfl c31 (Vc rfl tf_34_4 ts_32 (by decide)) ?_
             refine Zk rfl rfl rfl rfl c31 (Vf rfl (Vd rfl rfl) rfl ta_32 rfl) ?_
             refine Zk rfl rfl rfl rfl c31 (Vj rfl) ?_
             refine Zk rfl rfl rfl rfl c31 (Xi (Yj rfl rfl h33 te_32 ts_4) (v' := .vptr [.bool x32] 0) rfl) ?_
             refine Zk rfl rfl rfl rfl c31 (Xg rfl ta_4 rfl) ?_
             refine Zk rfl rfl rfl rfl c28 (Vo (congrArg PV.bool c31) rfl) ?_
             refine Zk rfl rfl rfl rfl c28 (Vm rfl) ?_
             refine Zk rfl rfl rfl rfl c34 (Xd rfl) ?_
             refine Zk rfl rfl rfl rfl c34 (Vj rfl) ?_
             refine Zk rfl rfl rfl rfl c34 (Xi (Yj rfl rfl h36 te_27 ts_31) (v' := .vptr [.int .i64 x35.Onto, .int .i64 x35.Warn] 0) rfl) ?_
             refine Zk rfl rfl rfl rfl c34 (Yb rfl tf_31_0 ts_3 (by decide)) ?_
             refine Zk rfl rfl rfl rfl c34 (Xg rfl ta_3 rfl) ?_
             refine Zk rfl rfl rfl rfl c34 (rd_geq rfl rfl) ?_
             refine Zk rfl rfl rfl rfl c34 (Vm rfl) ?_
             refine Zk rfl rfl rfl rfl c37 (Vc rfl tf_34_1 ts_22 (by decide)) ?_
             refine Zk rfl rfl rfl rfl c37 (Vf rfl (Vd rfl rfl) rfl ta_22 rfl) ?_
             refine Zk rfl rfl rfl rfl c37 (Xd rfl) ?_
             refine Zk rfl rfl rfl rfl c37 (Vj rfl) ?_
             refine Zk rfl rfl rfl rfl c37 (Xi (Yj rfl rfl h39 te_27 ts_31) (v' := .vptr [.int .i64 x38.Onto, .int .i64 x38.Warn] 0) rfl) ?_
             refine Zk rfl rfl rfl rfl c37 (Yb rfl tf_31_0 ts_3 (by decide)) ?_
             refine Zk rfl rfl rfl rfl c37 (Xg rfl ta_3 rfl) ?_
             refine Zk rfl rfl rfl rfl c37 (Xi (Yj rfl rfl h41 te_22 ts_3) (v' := .vptr [.int .i64 x40] 0) rfl) ?_
             refine Zk rfl rfl rfl rfl c37 (Xg rfl ta_3 rfl) ?_
             refine Zk rfl rfl rfl rfl c37 (Zb rfl rfl) ?_
             refine Zk rfl rfl rfl rfl c34 (Vp (congrArg PV.bool c37) rfl) ?_
             refine Zk rfl rfl rfl rfl c28 (Vo (congrArg PV.bool c34) rfl) ?_
             refine Yn rfl rfl (Vp (congrArg PV.bool c28) rfl) ?_
             refine Yz ?_
             obtain rfl := Option.some.inj hF
             refine Xv ?_
             exact Vq ⟨rfl, rfl, rfl, rfl, rfl, trivial⟩
            ·have hF := Ym c37 hF
             refine Zf [[], [0], [0, 1], [0, 1, 2], [0, 1, 2, 3], [0, 1, 2], [0, 1, 2, 3, 4, 5], [0, 1, 2, 3, 4, 5, 6], [0, 1, 2, 3, 4, 5, 6, 7], [0, 1, 2, 3, 4, 5, 6, 7, 8], [0, 1, 2, 3, 4, 5, 6, 7, 8, 9], [0, 1, 2, 3, 4, 5, 6, 7, 8], [0, 1, 2, 3, 4, 5, 6, 7, 8, 9, 10, 11], [0, 1, 2, 3, 4, 5, 6, 7, 8, 9, 10, 11, 12], [0, 1, 2, 3, 4, 5, 6, 7, 8, 9, 10, 11, 12, 13], [0, 1, 2, 3, 4, 5, 6, 7, 8, 9, 10, 11, 12, 13, 14], [0, 1, 2, 3, 4, 5, 6, 7, 8, 9, 10, 11, 12, 13, 14, 15], [0, 1, 2, 3, 4, 5, 6, 7, 8, 9, 10, 11, 12, 13, 14, 15], [0, 1, 2, 3, 4, 5, 6, 7, 8, 9, 10, 11, 12, 13, 14, 15, 16, 17], [0, 1, 2, 3, 4, 5, 6, 7, 8, 9, 10, 11, 12, 13, 14, 15, 16, 17, 18], [0, 1, 2, 3, 4, 5, 6, 7, 8, 9, 10, 11, 12, 13, 14, 15, 16, 17, 18, 19], [0, 1, 2, 3, 4, 5, 6, 7, 8, 9, 10, 11, 12, 13, 14, 15, 16, 17, 18, 19, 20], [0, 1, 2, 3, 4, 5, 6, 7, 8, 9, 10, 11, 12, 13, 14, 15, 16, 17, 18, 19, 20, 21], [0, 1, 2, 3, 4, 5, 6, 7, 8, 9, 10, 11, 12, 13, 14, 15, 16, 17, 18, 19, 20, 21, 22], [0, 1, 2, 3, 4, 5, 6, 7, 8, 9, 10, 11, 12, 13, 14, 15, 16, 17, 18, 19, 20, 21, 22, 23], [0, 1, 2, 3, 4, 5, 6, 7, 8, 9, 10, 11, 12, 13, 14, 15, 16, 17, 18, 19, 20, 21, 22], [0, 1, 2, 3, 4, 5, 6, 7, 8, 9, 10, 11, 12, 13, 14, 15, 16, 17, 18, 19, 20, 21, 22], [0, 1, 2, 3, 4, 5, 6, 7, 8, 9, 10, 11, 12, 13, 14, 15, 16, 17, 18, 19, 20, 21, 22, 25, 26], [0, 1, 2, 3, 4, 5, 6, 7, 8, 9, 10, 11, 12, 13, 14, 15, 16, 17, 18, 19, 20, 21, 22, 25, 26, 27], [0, 1, 2, 3, 4, 5, 6, 7, 8, 9, 10, 11, 12, 13, 14, 15, 16, 17, 18, 19, 20, 21, 22, 25, 26, 27, 28], [0, 1, 2, 3, 4, 5, 6, 7, 8, 9, 10, 11, 12, 13, 14, 15, 16, 17, 18, 19, 20, 21, 22, 23, 24, 25, 26, 27, 28, 29], [0, 1, 2, 3, 4, 5, 6, 7, 8, 9, 10, 11, 12, 13, 14, 15, 16, 17, 18, 19, 20, 21, 22, 23, 24, 25, 26, 27, 28, 29, 30], [0, 1, 2, 3, 4, 5, 6, 7, 8, 9, 10, 11, 12, 13, 14, 15, 16, 17, 18, 19, 20, 21, 22, 23, 24, 25, 26, 27, 28, 29, 30, 31], [0, 1, 2, 3, 4, 5, 6, 7, 8, 9, 10, 11, 12, 13, 14, 15, 16, 17, 18, 19, 20, 21, 22, 23, 24, 25, 26, 27, 28, 29, 30, 31, 32], [0, 1, 2, 3, 4, 5, 6, 7, 8, 9, 10, 11, 12, 13, 14, 15, 16, 17, 18, 19, 20, 21, 22, 23, 24, 25, 26, 27, 28, 29, 30, 31, 32, 33], [0, 1, 2, 3, 4, 5, 6, 7, 8, 9, 10, 11, 12, 13, 14, 15, 16, 17, 18, 19, 20, 21, 22, 23, 24, 25, 26, 27, 28, 29, 30, 31, 32, 33, 34]] mixed (by kernel_rfl) rfl ?_
             refine Yn rfl rfl (Vj rfl) ?_
             refine Yn rfl rfl (Zb rfl rfl) ?_
             refine Yn rfl rfl (Vm rfl) ?_
             refine Zk rfl rfl rfl rfl c28 (Vc rfl tf_34_3 ts_32 (by decide)) ?_
             refine Zk rfl rfl rfl rfl c28 (Vf rfl (Vd rfl rfl) rfl ta_32 rfl) ?_
             refine Zk rfl rfl rfl rfl c28 (Vj rfl) ?_
             refine Zk rfl rfl rfl rfl c28 (Xi (Yj rfl rfl h30 te_32 ts_4) (v' := .vptr [.bool x29] 0) rfl) ?_
             refine Zk rfl rfl rfl rfl c28 (Xg rfl ta_4 rfl) ?_
             refine Zk rfl rfl rfl rfl c28 (Vm rfl) ?_
             refine Zk rfl rfl rfl rfl c31 (Vc rfl tf_34_4 ts_32 (by decide)) ?_
             refine Zk rfl rfl rfl rfl c31 (Vf rfl (Vd rfl rfl) rfl ta_32 rfl) ?_
             refine Zk rfl rfl rfl rfl c31 (Vj rfl) ?_
             refine Zk rfl rfl rfl rfl c31 (Xi (Yj rfl rfl h33 te_32 ts_4) (v' := .vptr [.bool x32] 0) rfl) ?_
             refine Zk rfl rfl rfl rfl c31 (Xg rfl ta_4 rfl) ?_
             refine Zk rfl rfl rfl rfl c28 (Vo (congrArg PV.bool c31) rfl) ?_
             refine Zk rfl rfl rfl rfl c28 (Vm rfl) ?_
             refine Zk rfl rfl rfl rfl c34 (Xd rfl) ?_
             refine Zk rfl rfl rfl rfl c34 (Vj rfl) ?_
             refine Zk rfl rfl rfl rfl c34 (Xi (Yj rfl rfl h36 te_27 ts_31) (v' := .vptr [.int .i64 x35.Onto, .int .i64 x35.Warn] 0) rfl) ?_
             refine Zk rfl rfl rfl rfl c34 (Yb rfl tf_31_0 ts_3 (by decide)) ?_
             refine Zk rfl rfl rfl rfl c34 (Xg rfl ta_3 rfl) ?_
             refine Zk rfl rfl rfl rfl c34 (rd_geq rfl rfl) ?_
             refine Zk rfl rfl rfl rfl c34 (Vm rfl) ?_
             refine Vn rfl rfl rfl (Zm c37) ?_
             refine Vn rfl rfl rfl (Zm c37) ?_
             refine Vn rfl rfl rfl (Zm c37) ?_
             refine Vn rfl rfl rfl (Zm c37) ?_
             refine Vn rfl rfl rfl (Zm c37) ?_
             refine Vn rfl rfl rfl (Zm c37) ?_
             refine Vn rfl rfl rfl (Zm c37) ?_
             refine Vn rfl rfl rfl (Zm c37) ?_
             refine Vn rfl rfl rfl (Zm c37) ?_
             refine Vn rfl rfl rfl (Zm c37) ?_
             refine Zk rfl rfl rfl rfl c34 (Vo (congrArg PV.bool c37) rfl) ?_
             refine Zk rfl rfl rfl rfl c28 (Vo (congrArg PV.bool c34) rfl) ?_
             refine Yn rfl rfl (Vp (congrArg PV.bool c28) rfl) ?_
             refine Yz ?_
             obtain rfl := Option.some.inj hF
             refine Xv ?_
             exact Vq ⟨rfl, rfl, rfl, rfl, rfl, trivial⟩
         ·have hF := Ym c28 hF
          refine Zf [[], [0], [0, 1], [0, 1, 2], [0, 1, 2, 3], [0, 1, 2], [0, 1, 2, 3, 4, 5], [0, 1, 2, 3, 4, 5, 6], [0, 1, 2, 3, 4, 5, 6, 7], [0, 1, 2, 3, 4, 5, 6, 7, 8], [0, 1, 2, 3, 4, 5, 6, 7, 8, 9], [0, 1, 2, 3, 4, 5, 6, 7, 8], [0, 1, 2, 3, 4, 5, 6, 7, 8, 9, 10, 11], [0, 1, 2, 3, 4, 5, 6, 7, 8, 9, 10, 11, 12], [0, 1, 2, 3, 4, 5, 6, 7, 8, 9, 10, 11, 12, 13], [0, 1, 2, 3, 4, 5, 6, 7, 8, 9, 10, 11, 12, 13, 14], [0, 1, 2, 3, 4, 5, 6, 7, 8, 9, 10, 11, 12, 13, 14, 15], [0, 1, 2, 3, 4, 5, 6, 7, 8, 9, 10, 11, 12, 13, 14, 15], [0, 1, 2, 3, 4, 5, 6, 7, 8, 9, 10, 11, 12, 13, 14, 15, 16, 17], [0, 1, 2, 3, 4, 5, 6, 7, 8, 9, 10, 11, 12, 13, 14, 15, 16, 17, 18], [0, 1, 2, 3, 4, 5, 6, 7, 8, 9, 10, 11, 12, 13, 14, 15, 16, 17, 18, 19], [0, 1, 2, 3, 4, 5, 6, 7, 8, 9, 10, 11, 12, 13, 14, 15, 16, 17, 18, 19, 20], [0, 1, 2, 3, 4, 5, 6, 7, 8, 9, 10, 11, 12, 13, 14, 15, 16, 17, 18, 19, 20, 21], [0, 1, 2, 3, 4, 5, 6, 7, 8, 9, 10, 11, 12, 13, 14, 15, 16, 17, 18, 19, 20, 21, 22], [0, 1, 2, 3, 4, 5, 6, 7, 8, 9, 10, 11, 12, 13, 14, 15, 16, 17, 18, 19, 20, 21, 22, 23], [0, 1, 2, 3, 4, 5, 6, 7, 8, 9, 10, 11, 12, 13, 14, 15, 16, 17, 18, 19, 20, 21, 22], [0, 1, 2, 3, 4, 5, 6, 7, 8, 9, 10, 11, 12, 13, 14, 15, 16, 17, 18, 19, 20, 21, 22], [0, 1, 2, 3, 4, 5, 6, 7, 8, 9, 10, 11, 12, 13, 14, 15, 16, 17, 18, 19, 20, 21, 22, 25, 26], [0, 1, 2, 3, 4, 5, 6, 7, 8, 9, 10, 11, 12, 13, 14, 15, 16, 17, 18, 19, 20, 21, 22, 25, 26, 27], [0, 1, 2, 3, 4, 5, 6, 7, 8, 9, 10, 11, 12, 13, 14, 15, 16, 17, 18, 19, 20, 21, 22, 25, 26, 27, 28], [0, 1, 2, 3, 4, 5, 6, 7, 8, 9, 10, 11, 12, 13, 14, 15, 16, 17, 18, 19, 20, 21, 22, 23, 24, 25, 26, 27, 28, 29], [0, 1, 2, 3, 4, 5, 6, 7, 8, 9, 10, 11, 12, 13, 14, 15, 16, 17, 18, 19, 20, 21, 22, 23, 24, 25, 26, 27, 28, 29, 30], [0, 1, 2, 3, 4, 5, 6, 7, 8, 9, 10, 11, 12, 13, 14, 15, 16, 17, 18, 19, 20, 21, 22, 23, 24, 25, 26, 27, 28, 29, 30, 31], [0, 1, 2, 3, 4, 5, 6, 7, 8, 9, 10, 11, 12, 13, 14, 15, 16, 17, 18, 19, 20, 21, 22, 23, 24, 25, 26, 27, 28, 29, 30, 31, 32], [0, 1, 2, 3, 4, 5, 6, 7, 8, 9, 10, 11, 12, 13, 14, 15, 16, 17, 18, 19, 20, 21, 22, 23, 24, 25, 26, 27, 28, 29, 30, 31, 32, 33], [0, 1, 2, 3, 4, 5, 6, 7, 8, 9, 10, 11, 12, 13, 14, 15, 16, 17, 18, 19, 20, 21, 22, 23, 24, 25, 26, 27, 28, 29, 30, 31, 32, 33, 34]] mixed (by kernel_rfl) rfl ?_
          refine Yn rfl rfl (Vj rfl) ?_
          refine Yn rfl rfl (Zb rfl rfl) ?_
          refine Yn rfl rfl (Vm rfl) ?_
          refine Vn rfl rfl rfl (Zm c28) ?_
          refine Vn rfl rfl rfl (Zm c28) ?_
          refine Vn rfl rfl rfl (Zm c28) ?_
          refine Vn rfl rfl rfl (Zm c28) ?_
          refine Vn rfl rfl rfl (Zm c28) ?_
          refine Vn rfl rfl rfl (Zm c28) ?_
          refine Yd rfl rfl rfl ?_
          refine Yd rfl rfl rfl ?_
          refine Yd rfl rfl rfl ?_
          refine Yd rfl rfl rfl ?_
          refine Yd rfl rfl rfl ?_
          refine Vn rfl rfl rfl (Zm c28) ?_
          refine Vn rfl rfl rfl (Zm c28) ?_
          refine Yd rfl rfl rfl ?_
          refine Yd rfl rfl rfl ?_
          refine Yd rfl rfl rfl ?_
          refine Yd rfl rfl rfl ?_
          refine Yd rfl rfl rfl ?_
          refine Yd rfl rfl rfl ?_
          refine Yd rfl rfl rfl ?_
          refine Yd rfl rfl rfl ?_
          refine Yd rfl rfl rfl ?_
          refine Yd rfl rfl rfl ?_
          refine Yd rfl rfl rfl ?_
          refine Yd rfl rfl rfl ?_
          refine Yd rfl rfl rfl ?_
          refine Yd rfl rfl rfl ?_
          refine Yd rfl rfl rfl ?_
          refine Yd rfl rfl rfl ?_
          refine Yd rfl rfl rfl ?_
          refine Yd rfl rfl rfl ?_
          refine Vn rfl rfl rfl (Zm c28) ?_
          refine Yn rfl rfl (Vo (congrArg PV.bool c28) rfl) ?_
          refine Yz ?_
          obtain rfl := Option.some.inj hF
          refine Xv ?_
          exact Vq ⟨rfl, rfl, rfl, rfl, rfl, trivial⟩
        ·rintro _ _ _ _ ⟨rfl, hw⟩
         refine ⟨_, _, _, hw, ?_⟩
         refine Xj rfl (fun c42 => ?_) (fun c42 => ?_)
         ·have hF := Yl c42 hF
          refine Vi ?_
          refine Ve ?_
          refine Va (Xy rfl) rfl ?_
          refine Vg ?_
          refine Xb ?_
          obtain rfl := Option.some.inj hF
          refine Xv ?_
          exact Vv rfl [] (by decide) ⟨Vs rfl (.bool _), trivial⟩ trivial
         ·have hF := Ym c42 hF
          refine Xq ?_
          refine Ve ?_
          refine Va (Vj rfl) rfl ?_
          refine Va (rd_add rfl rfl rfl) rfl ?_
          refine Va (Xa rfl) rfl ?_
          refine Vg ?_
          obtain rfl := Option.some.inj hF
          refine Xv ?_
          exact Vq ⟨rfl, rfl, rfl, rfl, trivial⟩
     ·have hF := Ym c15 hF
      refine We ?_
      obtain rfl := Option.some.inj hF
      refine Xv ?_
      exact Vv rfl [] (by decide) trivial trivial
    ·rcases o12 with j13 | j14
     ·replace hF := elimL hF
      rintro _ _ _ _ ⟨rfl, hw⟩
      refine ⟨_, _, _, hw, ?_⟩
      obtain rfl := Option.some.inj hF
      refine Zy ?_
      exact Vq ⟨rfl, trivial⟩
     ·replace hF := elimR hF
      rintro _ _ _ _ ⟨rfl, hw⟩
      refine ⟨_, _, _, hw, ?_⟩
      refine Vi ?_
      refine Ve ?_
      refine Va (Xy rfl) rfl ?_
      refine Vg ?_
      refine Xb ?_
      obtain rfl := Option.some.inj hF
      refine Zy ?_
      exact Vq ⟨rfl, trivial⟩
 ·rintro _ _ _ _ ⟨he, hw⟩
  refine ⟨_, _, _, hw, ?_⟩
  exact Ze he [.bool r] ⟨rfl, trivial⟩ (.bool _) ⟨rfl, rfl⟩

theorem F_ref39_check_ok {p0 : List T_Belt} {p1 : T_Line} {p2 : Int} {r : Int} (hF : F_ref39_check p0 p1 p2 = some r) (low : List AObj) :
    Yv Try.prog 57 [.vs 2 (List.map T_Belt.enc p0), .agg [.int .i64 p1.Time, .vs 1 (List.map (PV.int .i64) p1.States), .vs 1 (List.map (PV.int .i64) p1.Since), .vs 1 (List.map PV.bool p1.Pulled), .vs 1 (List.map PV.bool p1.Held)], .int .i64 p2] low fun x low' => x = .int .i64 r ∧ low' = low := by
 refine Xc (nt := 19) (rs := [.tmp 6]) Try.func57 rfl rfl (Nat.le_of_ble_eq_true rfl) rfl ?_
 refine Vw (Q' := FnE (fun E' lw lc => Ya E' lw lc [(6, .int .i64 r)] low [])) ?_ ?_
 ·unfold F_ref39_check at hF
  refine Vi ?_
  refine Ve ?_
  refine Vk (Yw rfl rfl (v := .agg [.int .i64 p1.Time, .vs 1 (List.map (PV.int .i64) p1.States), .vs 1 (List.map (PV.int .i64) p1.Since), .vs 1 (List.map PV.bool p1.Pulled), .vs 1 (List.map PV.bool p1.Held)]) rfl rfl (Nat.succ_pos _) rfl rfl) rfl ?_
  refine Va (Xa rfl) rfl ?_
  refine Vg ?_
  refine Vi ?_
  refine Vi ?_
  refine Ve ?_
  obtain ⟨x1, h2, hF⟩ := Ys hF
  refine Va (Xd rfl) rfl ?_
  refine Va (Vu (ds := [.int .i64 p1.Time, .vs 1 (List.map (PV.int .i64) p1.States), .vs 1 (List.map (PV.int .i64) p1.Since), .vs 1 (List.map PV.bool p1.Pulled), .vs 1 (List.map PV.bool p1.Held)]) rfl (Vd rfl rfl) rfl ta_34 ts_34 rfl rfl rfl) rfl ?_
  refine Vk (Xk rfl Try.call41 (F_ref39_Valid_ok h2 _)) rfl ?_
  refine Va (Zn rfl) rfl ?_
  refine Vg ?_
  refine Xj rfl (fun c3 => ?_) (fun c3 => ?_)
  ·have hF := Yl c3 hF
   refine Vi ?_
   refine Ve ?_
   refine Va (Xa rfl) rfl ?_
   refine Vg ?_
   refine Xb ?_
   obtain rfl := Option.some.inj hF
   refine Zy ?_
   exact Vv rfl [] (by decide) ⟨Vs rfl (.int _ _), trivial⟩ trivial
  ·have hF := Ym c3 hF
   refine Xq ?_
   refine Vi ?_
   refine Vi ?_
   obtain ⟨o4, ho4, hF⟩ := Ys hF
   refine Vw (Q' := (fun o4 => OnlyE .normal (fun E' lw lc => Ya E' lw lc [(18, .bool o4)] low [])) o4) ?_ ?_
   ·replace hF := ho4
    refine Ve ?_
    rcases Bool.eq_false_or_eq_true (decide (p2 < 0)) with c5 | c5
    ·have hF := Yl c5 hF
     refine Va (Vj rfl) rfl ?_
     refine Va (Zo rfl rfl) rfl ?_
     refine Va (Vm rfl) rfl ?_
     refine Vb rfl rfl (Zh c5) rfl ?_
     refine Vb rfl rfl (Zh c5) rfl ?_
     refine Vb rfl rfl (Zh c5) rfl ?_
     refine Vb rfl rfl (Zh c5) rfl ?_
     refine Va (Vp (congrArg PV.bool c5) rfl) rfl ?_
     refine Vg ?_
     obtain rfl := Option.some.inj hF
     refine Xv ?_
     exact Vv rfl [] (by decide) ⟨Vs rfl (.bool _), trivial⟩ trivial
    ·have hF := Ym c5 hF
     refine Va (Vj rfl) rfl ?_
     refine Va (Zo rfl rfl) rfl ?_
     refine Va (Vm rfl) rfl ?_
     refine Vz rfl rfl c5 ?_
     refine Va (Vj rfl) rfl ?_
     refine Vz rfl rfl c5 ?_
     refine Va (Xd rfl) rfl ?_
     refine Vz rfl rfl c5 ?_
     refine Va (Xi (Xo rfl rfl te_27) (congrArg (fun n : Nat => PV.int .i64 (n : Int)) (List.length_map _))) rfl ?_
     refine Vz rfl rfl c5 ?_
     refine Va (rd_geq rfl rfl) rfl ?_
     refine Va (Vo (congrArg PV.bool c5) rfl) rfl ?_
     refine Vg ?_
     obtain rfl := Option.some.inj hF
     refine Xv ?_
     exact Vv rfl [] (by decide) ⟨Vs rfl (.bool _), trivial⟩ trivial
   ·rintro _ _ _ _ ⟨rfl, hw⟩
    refine ⟨_, _, _, hw, ?_⟩
    refine Xj rfl (fun c6 => ?_) (fun c6 => ?_)
    ·have hF := Yl c6 hF
     refine Vi ?_
     refine Ve ?_
     refine Va (Xa rfl) rfl ?_
     refine Vg ?_
     refine Xb ?_
     obtain rfl := Option.some.inj hF
     refine Zy ?_
     exact Vq ⟨rfl, trivial⟩
    ·have hF := Ym c6 hF
     refine Xq ?_
     refine Vi ?_
     refine Ve ?_
     refine Va (Xa rfl) rfl ?_
     refine Vg ?_
     refine Xb ?_
     obtain rfl := Option.some.inj hF
     refine Zy ?_
     exact Vq ⟨rfl, trivial⟩
 ·rintro _ _ _ _ ⟨he, hw⟩
  refine ⟨_, _, _, hw, ?_⟩
  exact Ze he [.int .i64 r] ⟨rfl, trivial⟩ (.int _ _) ⟨rfl, rfl⟩

theorem F_ref39_Start_ok {p0 : List T_Belt} {p1 : T_Line} {p2 : Int} {r : T_Line × Int} (hF : F_ref39_Start p0 p1 p2 = some r) (low : List AObj) {n : Nat} (hn : low.length = n) :
    Yv Try.prog 45 [.vs 2 (List.map T_Belt.enc p0), .agg [.int .i64 p1.Time, .vs 1 (List.map (PV.int .i64) p1.States), .vs 1 (List.map (PV.int .i64) p1.Since), .vs 1 (List.map PV.bool p1.Pulled), .vs 1 (List.map PV.bool p1.Held)], .int .i64 p2] low fun x low' => x = .tup [.agg [.int .i64 r.1.Time, .sl (n + 0) 0 0 (r.1.States).length, .sl (n + 1) 0 0 (r.1.Since).length, .sl (n + 2) 0 0 (r.1.Pulled).length, .vs 1 (List.map PV.bool r.1.Held)], .int .i64 r.2] ∧ low' = low ++ [⟨3, 1, List.map (PV.int .i64) r.1.States, 0⟩, ⟨3, 1, List.map (PV.int .i64) r.1.Since, 0⟩, ⟨4, 1, List.map PV.bool r.1.Pulled, 0⟩] := by
 refine Xc (nt := 72) (rs := [.cell 6 34, .tmp 7]) Try.func45 rfl rfl (Nat.le_of_ble_eq_true rfl) rfl ?_
 refine Vw (Q' := FnE (fun E' lw lc => Ya E' lw lc [(6, .ptr (n + 3) 0 0 0), (7, .int .i64 r.2)] low [⟨3, 1, List.map (PV.int .i64) r.1.States, 0⟩, ⟨3, 1, List.map (PV.int .i64) r.1.Since, 0⟩, ⟨4, 1, List.map PV.bool r.1.Pulled, 0⟩, ⟨34, 5, [.agg [.int .i64 r.1.Time, .sl (n + 0) 0 0 (r.1.States).length, .sl (n + 1) 0 0 (r.1.Since).length, .sl (n + 2) 0 0 (r.1.Pulled).length, .vs 1 (List.map PV.bool r.1.Held)]], 0⟩])) ?_ ?_
 ·unfold F_ref39_Start at hF
  refine Vi ?_
  refine Ve ?_
  refine Vk (Yw hn rfl (v := .agg [.int .i64 p1.Time, .vs 1 (List.map (PV.int .i64) p1.States), .vs 1 (List.map (PV.int .i64) p1.Since), .vs 1 (List.map PV.bool p1.Pulled), .vs 1 (List.map PV.bool p1.Held)]) rfl rfl (Nat.succ_pos _) rfl rfl) rfl ?_
  refine Vk (Xe hn rfl tz_34 rfl rfl (Nat.succ_pos _) rfl) rfl ?_
  refine Va (Xa rfl) rfl ?_
  refine Vg ?_
  refine Vi ?_
  refine Ve ?_
  obtain ⟨x1, h2, hF⟩ := Ys hF
  refine Va (Vu (ds := [.int .i64 p1.Time, .vs 1 (List.map (PV.int .i64) p1.States), .vs 1 (List.map (PV.int .i64) p1.Since), .vs 1 (List.map PV.bool p1.Pulled), .vs 1 (List.map PV.bool p1.Held)]) rfl (Vd hn rfl) rfl ta_34 ts_34 rfl rfl rfl) rfl ?_
  refine Vk (Xf (r := .agg [.int .i64 x1.Time, .sl (n + 2) 0 0 (x1.States).length, .sl (n + 3) 0 0 (x1.Since).length, .sl (n + 4) 0 0 (x1.Pulled).length, .sl (n + 5) 0 0 (x1.Held).length]) (os := [⟨3, 1, List.map (PV.int .i64) x1.States, 0⟩, ⟨3, 1, List.map (PV.int .i64) x1.Since, 0⟩, ⟨4, 1, List.map PV.bool x1.Pulled, 0⟩, ⟨4, 1, List.map PV.bool x1.Held, 0⟩]) rfl Try.call23 (F_ref39_Copy_ok h2 _ (Xn hn rfl))) rfl ?_
  refine Vk (Vx (p := .agg [.int .i64 x1.Time, .sl (n + 2) 0 0 (x1.States).length, .sl (n + 3) 0 0 (x1.Since).length, .sl (n + 4) 0 0 (x1.Pulled).length, .sl (n + 5) 0 0 (x1.Held).length]) (e' := .agg [.int .i64 x1.Time, .sl (n + 2) 0 0 (x1.States).length, .sl (n + 3) 0 0 (x1.Since).length, .sl (n + 4) 0 0 (x1.Pulled).length, .sl (n + 5) 0 0 (x1.Held).length]) rfl (Vd hn rfl) rfl rfl ts_34 rfl (Yc rfl) rfl (Nat.le_of_ble_eq_true rfl) rfl (Xr hn rfl)) rfl ?_
  refine Vg ?_
  refine Vi ?_
  refine Vi ?_
  refine Ve ?_
  obtain ⟨x3, h4, hF⟩ := Ys hF
  refine Va (Xd rfl) rfl ?_
  refine Va (Vu (ds := [.int .i64 x1.Time, .sl (n + 2) 0 0 (x1.States).length, .sl (n + 3) 0 0 (x1.Since).length, .sl (n + 4) 0 0 (x1.Pulled).length, .sl (n + 5) 0 0 (x1.Held).length]) rfl (Vd hn rfl) rfl ta_34 ts_34 rfl rfl rfl) rfl ?_
  refine Va (Vj rfl) rfl ?_
  refine Vk (vef_callB (vs := [.vs 2 (List.map T_Belt.enc p0), .agg [.int .i64 x1.Time, .vs 1 (List.map (PV.int .i64) x1.States), .vs 1 (List.map (PV.int .i64) x1.Since), .vs 1 (List.map PV.bool x1.Pulled), .vs 1 (List.map PV.bool x1.Held)], .int .i64 p2]) rfl Try.call57 ⟨Zg rfl (.vs _ _), view_agg rfl ⟨Zg rfl (.int _ _), Zl rfl (Vd hn rfl) rfl rfl (Yh (fun _ => .int _ _)) (Vy rfl), Zl rfl (Vd hn rfl) rfl rfl (Yh (fun _ => .int _ _)) (Vy rfl), Zl rfl (Vd hn rfl) rfl rfl (Yh (fun _ => .bool _)) (Vy rfl), Zl rfl (Vd hn rfl) rfl rfl (Yh (fun _ => .bool _)) (Vy rfl), trivial⟩, Zg rfl (.int _ _), trivial⟩ ((F_ref39_check_ok h4 []).mono fun _ _ h => h.1) (.int _ _)) rfl ?_
  refine Va (Xa rfl) rfl ?_
  refine Vg ?_
  refine Vi ?_
  refine Ve ?_
  refine Va (Vj rfl) rfl ?_
  refine Va (Zb rfl rfl) rfl ?_
  refine Vg ?_
  refine Xj rfl (fun c5 => ?_) (fun c5 => ?_)
  ·have hF := Yl c5 hF
   refine Vi ?_
   refine Ve ?_
   refine Va (Vu (ds := [.int .i64 x1.Time, .sl (n + 2) 0 0 (x1.States).length, .sl (n + 3) 0 0 (x1.Since).length, .sl (n + 4) 0 0 (x1.Pulled).length, .sl (n + 5) 0 0 (x1.Held).length]) rfl (Vd hn rfl) rfl ta_34 ts_34 rfl rfl rfl) rfl ?_
   refine Va (Vj rfl) rfl ?_
   refine Vk (Vx (p := .agg [.int .i64 x1.Time, .sl (n + 2) 0 0 (x1.States).length, .sl (n + 3) 0 0 (x1.Since).length, .sl (n + 4) 0 0 (x1.Pulled).length, .sl (n + 5) 0 0 (x1.Held).length]) (e' := .agg [.int .i64 x1.Time, .sl (n + 2) 0 0 (x1.States).length, .sl (n + 3) 0 0 (x1.Since).length, .sl (n + 4) 0 0 (x1.Pulled).length, .sl (n + 5) 0 0 (x1.Held).length]) rfl (Vd hn rfl) rfl rfl ts_34 rfl (Yc rfl) rfl (Nat.le_of_ble_eq_true rfl) rfl (Xr hn rfl)) rfl ?_
   refine Va (Xa rfl) rfl ?_
   refine Vg ?_
   refine Xb ?_
   obtain rfl := Option.some.inj hF
   refine Zy ?_
   refine Ya.trans (Xp (E' := [(6, .ptr (n + 1) 0 0 0), (7, .int .i64 x3)]) (loc1 := [⟨34, 5, [.agg [.int .i64 x1.Time, .sl (n + 2) 0 0 (x1.States).length, .sl (n + 3) 0 0 (x1.Since).length, .sl (n + 4) 0 0 (x1.Pulled).length, .vs 1 (List.map PV.bool x1.Held)]], 0⟩, ⟨34, 5, [.agg [.int .i64 x1.Time, .sl (n + 2) 0 0 (x1.States).length, .sl (n + 3) 0 0 (x1.Since).length, .sl (n + 4) 0 0 (x1.Pulled).length, .vs 1 (List.map PV.bool x1.Held)]], 0⟩, ⟨3, 1, List.map (PV.int .i64) x1.States, 0⟩, ⟨3, 1, List.map (PV.int .i64) x1.Since, 0⟩, ⟨4, 1, List.map PV.bool x1.Pulled, 0⟩, ⟨4, 1, [], 0 + 1⟩]) hn 5 rfl (Yh (fun _ => .bool _)) ⟨Vl rfl, Vl rfl, trivial⟩ ⟨Yq ⟨Vl rfl, Vl rfl, Vl rfl, Vl rfl, Zi rfl rfl rfl (Vy rfl), trivial⟩, Yq ⟨Vl rfl, Vl rfl, Vl rfl, Vl rfl, Zi rfl rfl rfl (Vy rfl), trivial⟩, .refl _, .refl _, .refl _, .refl _, trivial⟩) ?_
   exact Vv hn [(2, 0), (3, 0), (4, 0), (1, 0)] (by decide) ⟨Yo 3 1 rfl rfl, Vs rfl (.int _ _), trivial⟩ ⟨⟨_, rfl, rfl, .same _ _ _ _ (Vh (fun _ => .int _ _))⟩, ⟨_, rfl, rfl, .same _ _ _ _ (Vh (fun _ => .int _ _))⟩, ⟨_, rfl, rfl, .same _ _ _ _ (Vh (fun _ => .bool _))⟩, ⟨_, rfl, rfl, .agg _ _ _ _ _ ⟨Vs rfl (.int _ _), Xu 0 2 rfl rfl, Xu 1 3 rfl rfl, Xu 2 4 rfl rfl, Vs rfl (.vs _ _), trivial⟩⟩, trivial⟩
  ·have hF := Ym c5 hF
   refine Xq ?_
   refine Vi ?_
   refine Yk ?_
   refine Vi ?_
   refine Ve ?_
   obtain ⟨x6, h7, hF⟩ := Ys hF
   refine Va (Vc rfl tf_34_1 ts_22 (by decide)) rfl ?_
   refine Va (Vf rfl (Vd hn rfl) rfl ta_22 rfl) rfl ?_
   refine Va (Vj rfl) rfl ?_
   refine Va (Zv rfl rfl rfl (Vd hn rfl) h7 te_22 ts_3) rfl ?_
   refine Va (rd_ldL1 rfl (Vd hn rfl) (Zc h7).2 ta_3 rfl) rfl ?_
   refine Va (Zb rfl rfl) rfl ?_
   refine Va (Xy rfl) rfl ?_
   refine Vg ?_
   refine Xj rfl (fun c8 => ?_) (fun c8 => ?_)
   ·have hF := Yl c8 hF
    refine Vi ?_
    refine Ve ?_
    refine Va (Vu (ds := [.int .i64 x1.Time, .sl (n + 2) 0 0 (x1.States).length, .sl (n + 3) 0 0 (x1.Since).length, .sl (n + 4) 0 0 (x1.Pulled).length, .sl (n + 5) 0 0 (x1.Held).length]) rfl (Vd hn rfl) rfl ta_34 ts_34 rfl rfl rfl) rfl ?_
    refine Vk (Vx (p := .agg [.int .i64 x1.Time, .sl (n + 2) 0 0 (x1.States).length, .sl (n + 3) 0 0 (x1.Since).length, .sl (n + 4) 0 0 (x1.Pulled).length, .sl (n + 5) 0 0 (x1.Held).length]) (e' := .agg [.int .i64 x1.Time, .sl (n + 2) 0 0 (x1.States).length, .sl (n + 3) 0 0 (x1.Since).length, .sl (n + 4) 0 0 (x1.Pulled).length, .sl (n + 5) 0 0 (x1.Held).length]) rfl (Vd hn rfl) rfl rfl ts_34 rfl (Yc rfl) rfl (Nat.le_of_ble_eq_true rfl) rfl (Xr hn rfl)) rfl ?_
    refine Va (Xa rfl) rfl ?_
    refine Vg ?_
    refine Xb ?_
    obtain rfl := Option.some.inj hF
    refine Zy ?_
    refine Ya.trans (Xp (E' := [(6, .ptr (n + 1) 0 0 0), (7, .int .i64 10)]) (loc1 := [⟨34, 5, [.agg [.int .i64 x1.Time, .sl (n + 2) 0 0 (x1.States).length, .sl (n + 3) 0 0 (x1.Since).length, .sl (n + 4) 0 0 (x1.Pulled).length, .vs 1 (List.map PV.bool x1.Held)]], 0⟩, ⟨34, 5, [.agg [.int .i64 x1.Time, .sl (n + 2) 0 0 (x1.States).length, .sl (n + 3) 0 0 (x1.Since).length, .sl (n + 4) 0 0 (x1.Pulled).length, .vs 1 (List.map PV.bool x1.Held)]], 0⟩, ⟨3, 1, List.map (PV.int .i64) x1.States, 0⟩, ⟨3, 1, List.map (PV.int .i64) x1.Since, 0⟩, ⟨4, 1, List.map PV.bool x1.Pulled, 0⟩, ⟨4, 1, [], 0 + 1⟩]) hn 5 rfl (Yh (fun _ => .bool _)) ⟨Vl rfl, Vl rfl, trivial⟩ ⟨Yq ⟨Vl rfl, Vl rfl, Vl rfl, Vl rfl, Zi rfl rfl rfl (Vy rfl), trivial⟩, Yq ⟨Vl rfl, Vl rfl, Vl rfl, Vl rfl, Zi rfl rfl rfl (Vy rfl), trivial⟩, .refl _, .refl _, .refl _, .refl _, trivial⟩) ?_
    exact Vv hn [(2, 0), (3, 0), (4, 0), (1, 0)] (by decide) ⟨Yo 3 1 rfl rfl, Vs rfl (.int _ _), trivial⟩ ⟨⟨_, rfl, rfl, .same _ _ _ _ (Vh (fun _ => .int _ _))⟩, ⟨_, rfl, rfl, .same _ _ _ _ (Vh (fun _ => .int _ _))⟩, ⟨_, rfl, rfl, .same _ _ _ _ (Vh (fun _ => .bool _))⟩, ⟨_, rfl, rfl, .agg _ _ _ _ _ ⟨Vs rfl (.int _ _), Xu 0 2 rfl rfl, Xu 1 3 rfl rfl, Xu 2 4 rfl rfl, Vs rfl (.vs _ _), trivial⟩⟩, trivial⟩
   ·have hF := Ym c8 hF
    refine Vi ?_
    obtain ⟨o9, ho9, hF⟩ := Ys hF
    refine Vw (Q' := (fun o9 => OnlyE .normal (fun E' lw lc => Ya E' lw lc [(0, .vs 2 (List.map T_Belt.enc p0)), (2, .int .i64 p2), (4, .ptr (n + 0) 0 0 0), (6, .ptr (n + 1) 0 0 0), (27, .bool o9.1)] low [⟨34, 5, [.agg [.int .i64 o9.2.Time, .sl (n + 2) 0 0 (o9.2.States).length, .sl (n + 3) 0 0 (o9.2.Since).length, .sl (n + 4) 0 0 (o9.2.Pulled).length, .vs 1 (List.map PV.bool o9.2.Held)]], 0⟩, ⟨34, 5, [.agg [.int .i64 0, .nils, .nils, .nils, .nils]], 0⟩, ⟨3, 1, List.map (PV.int .i64) o9.2.States, 0⟩, ⟨3, 1, List.map (PV.int .i64) o9.2.Since, 0⟩, ⟨4, 1, List.map PV.bool o9.2.Pulled, 0⟩])) o9) ?_ ?_
    ·replace hF := ho9
     refine Ve ?_
     obtain ⟨x10, h11, hF⟩ := Ys hF
     rcases Bool.eq_false_or_eq_true x10 with c12 | c12
     ·have hF := Yl c12 hF
      refine Va (Vc rfl tf_34_3 ts_32 (by decide)) rfl ?_
      refine Va (Vf rfl (Vd hn rfl) rfl ta_32 rfl) rfl ?_
      refine Va (Vj rfl) rfl ?_
      refine Va (Zv rfl rfl rfl (Vd hn rfl) h11 te_32 ts_4) rfl ?_
      refine Va (rd_ldL1 rfl (Vd hn rfl) (Zc h11).2 ta_4 rfl) rfl ?_
      refine Va (Vm rfl) rfl ?_
      refine Vb rfl rfl (Zh c12) rfl ?_
      refine Vb rfl rfl (Zh c12) rfl ?_
      refine Vb rfl rfl (Zh c12) rfl ?_
      refine Vb rfl rfl (Zh c12) rfl ?_
      refine Vb rfl rfl (Zh c12) rfl ?_
      refine Va (Vp (congrArg PV.bool c12) rfl) rfl ?_
      refine Va (Xy rfl) rfl ?_
      refine Vg ?_
      obtain rfl := Option.some.inj hF
      refine Xv ?_
      refine Ya.trans (Xp (E' := [(0, .vs 2 (List.map T_Belt.enc p0)), (2, .int .i64 p2), (4, .ptr (n + 0) 0 0 0), (6, .ptr (n + 1) 0 0 0), (27, .bool true)]) (loc1 := [⟨34, 5, [.agg [.int .i64 x1.Time, .sl (n + 2) 0 0 (x1.States).length, .sl (n + 3) 0 0 (x1.Since).length, .sl (n + 4) 0 0 (x1.Pulled).length, .vs 1 (List.map PV.bool x1.Held)]], 0⟩, ⟨34, 5, [.agg [.int .i64 0, .nils, .nils, .nils, .nils]], 0⟩, ⟨3, 1, List.map (PV.int .i64) x1.States, 0⟩, ⟨3, 1, List.map (PV.int .i64) x1.Since, 0⟩, ⟨4, 1, List.map PV.bool x1.Pulled, 0⟩, ⟨4, 1, [], 0 + 1⟩]) hn 5 rfl (Yh (fun _ => .bool _)) ⟨Vl rfl, Vl rfl, Vl rfl, Vl rfl, Vl rfl, trivial⟩ ⟨Yq ⟨Vl rfl, Vl rfl, Vl rfl, Vl rfl, Zi rfl rfl rfl (Vy rfl), trivial⟩, .refl _, .refl _, .refl _, .refl _, .refl _, trivial⟩) ?_
      exact Vv hn [(0, 0), (1, 0), (2, 0), (3, 0), (4, 0)] (by decide) ⟨Vs rfl (.vs _ _), Vs rfl (.int _ _), Yo 0 0 rfl rfl, Yo 1 1 rfl rfl, Vs rfl (.bool _), trivial⟩ ⟨⟨_, rfl, rfl, .agg _ _ _ _ _ ⟨Vs rfl (.int _ _), Xu 2 2 rfl rfl, Xu 3 3 rfl rfl, Xu 4 4 rfl rfl, Vs rfl (.vs _ _), trivial⟩⟩, ⟨_, rfl, rfl, .same _ _ _ _ (Xt ⟨Xx ⟨.int _ _, .nils, .nils, .nils, .nils, trivial⟩, trivial⟩)⟩, ⟨_, rfl, rfl, .same _ _ _ _ (Vh (fun _ => .int _ _))⟩, ⟨_, rfl, rfl, .same _ _ _ _ (Vh (fun _ => .int _ _))⟩, ⟨_, rfl, rfl, .same _ _ _ _ (Vh (fun _ => .bool _))⟩, trivial⟩
     ·have hF := Ym c12 hF
      obtain ⟨x13, h14, hF⟩ := Ys hF
      refine Va (Vc rfl tf_34_3 ts_32 (by decide)) rfl ?_
      refine Va (Vf rfl (Vd hn rfl) rfl ta_32 rfl) rfl ?_
      refine Va (Vj rfl) rfl ?_
      refine Va (Zv rfl rfl rfl (Vd hn rfl) h11 te_32 ts_4) rfl ?_
      refine Va (rd_ldL1 rfl (Vd hn rfl) (Zc h11).2 ta_4 rfl) rfl ?_
      refine Va (Vm rfl) rfl ?_
      refine Vz rfl rfl c12 ?_
      refine Va (Vc rfl tf_34_4 ts_32 (by decide)) rfl ?_
      refine Vz rfl rfl c12 ?_
      refine Va (Vf rfl (Vd hn rfl) rfl ta_32 rfl) rfl ?_
      refine Vz rfl rfl c12 ?_
      refine Va (Vj rfl) rfl ?_
      refine Vz rfl rfl c12 ?_
      refine Va (Zv rfl rfl rfl (Vd hn rfl) h14 te_32 ts_4) rfl ?_
      refine Vz rfl rfl c12 ?_
      refine Va (rd_ldL1 rfl (Vd hn rfl) (Zc h14).2 ta_4 rfl) rfl ?_
      refine Va (Vo (congrArg PV.bool c12) rfl) rfl ?_
      refine Va (Xy rfl) rfl ?_
      refine Vg ?_
      obtain rfl := Option.some.inj hF
      refine Xv ?_
      refine Ya.trans (Xp (E' := [(0, .vs 2 (List.map T_Belt.enc p0)), (2, .int .i64 p2), (4, .ptr (n + 0) 0 0 0), (6, .ptr (n + 1) 0 0 0), (27, .bool x13)]) (loc1 := [⟨34, 5, [.agg [.int .i64 x1.Time, .sl (n + 2) 0 0 (x1.States).length, .sl (n + 3) 0 0 (x1.Since).length, .sl (n + 4) 0 0 (x1.Pulled).length, .vs 1 (List.map PV.bool x1.Held)]], 0⟩, ⟨34, 5, [.agg [.int .i64 0, .nils, .nils, .nils, .nils]], 0⟩, ⟨3, 1, List.map (PV.int .i64) x1.States, 0⟩, ⟨3, 1, List.map (PV.int .i64) x1.Since, 0⟩, ⟨4, 1, List.map PV.bool x1.Pulled, 0⟩, ⟨4, 1, [], 0 + 1⟩]) hn 5 rfl (Yh (fun _ => .bool _)) ⟨Vl rfl, Vl rfl, Vl rfl, Vl rfl, Vl rfl, trivial⟩ ⟨Yq ⟨Vl rfl, Vl rfl, Vl rfl, Vl rfl, Zi rfl rfl rfl (Vy rfl), trivial⟩, .refl _, .refl _, .refl _, .refl _, .refl _, trivial⟩) ?_
      exact Vv hn [(0, 0), (1, 0), (2, 0), (3, 0), (4, 0)] (by decide) ⟨Vs rfl (.vs _ _), Vs rfl (.int _ _), Yo 0 0 rfl rfl, Yo 1 1 rfl rfl, Vs rfl (.bool _), trivial⟩ ⟨⟨_, rfl, rfl, .agg _ _ _ _ _ ⟨Vs rfl (.int _ _), Xu 2 2 rfl rfl, Xu 3 3 rfl rfl, Xu 4 4 rfl rfl, Vs rfl (.vs _ _), trivial⟩⟩, ⟨_, rfl, rfl, .same _ _ _ _ (Xt ⟨Xx ⟨.int _ _, .nils, .nils, .nils, .nils, trivial⟩, trivial⟩)⟩, ⟨_, rfl, rfl, .same _ _ _ _ (Vh (fun _ => .int _ _))⟩, ⟨_, rfl, rfl, .same _ _ _ _ (Vh (fun _ => .int _ _))⟩, ⟨_, rfl, rfl, .same _ _ _ _ (Vh (fun _ => .bool _))⟩, trivial⟩
    ·rintro _ _ _ _ ⟨rfl, hw⟩
     refine ⟨_, _, _, hw, ?_⟩
     refine Xj rfl (fun c15 => ?_) (fun c15 => ?_)
     ·have hF := Yl c15 hF
      refine Vi ?_
      refine Ve ?_
      refine Va (Vu (ds := [.int .i64 o9.2.Time, .sl (n + 2) 0 0 (o9.2.States).length, .sl (n + 3) 0 0 (o9.2.Since).length, .sl (n + 4) 0 0 (o9.2.Pulled).length, .vs 1 (List.map PV.bool o9.2.Held)]) rfl (Vd hn rfl) rfl ta_34 ts_34 rfl rfl rfl) rfl ?_
      refine Vk (Vx (p := .agg [.int .i64 o9.2.Time, .sl (n + 2) 0 0 (o9.2.States).length, .sl (n + 3) 0 0 (o9.2.Since).length, .sl (n + 4) 0 0 (o9.2.Pulled).length, .vs 1 (List.map PV.bool o9.2.Held)]) (e' := .agg [.int .i64 o9.2.Time, .sl (n + 2) 0 0 (o9.2.States).length, .sl (n + 3) 0 0 (o9.2.Since).length, .sl (n + 4) 0 0 (o9.2.Pulled).length, .vs 1 (List.map PV.bool o9.2.Held)]) rfl (Vd hn rfl) rfl rfl ts_34 rfl (Yc rfl) rfl (Nat.le_of_ble_eq_true rfl) rfl (Xr hn rfl)) rfl ?_
      refine Va (Xa rfl) rfl ?_
      refine Vg ?_
      refine Xb ?_
      obtain rfl := Option.some.inj hF
      refine Zy ?_
      exact Vv hn [(2, 0), (3, 0), (4, 0), (1, 0)] (by decide) ⟨Yo 3 1 rfl rfl, Vs rfl (.int _ _), trivial⟩ ⟨⟨_, rfl, rfl, .same _ _ _ _ (Vh (fun _ => .int _ _))⟩, ⟨_, rfl, rfl, .same _ _ _ _ (Vh (fun _ => .int _ _))⟩, ⟨_, rfl, rfl, .same _ _ _ _ (Vh (fun _ => .bool _))⟩, ⟨_, rfl, rfl, .agg _ _ _ _ _ ⟨Vs rfl (.int _ _), Xu 0 2 rfl rfl, Xu 1 3 rfl rfl, Xu 2 4 rfl rfl, Vs rfl (.vs _ _), trivial⟩⟩, trivial⟩
     ·have hF := Ym c15 hF
      refine Vi ?_
      obtain ⟨o16, ho16, hF⟩ := Ys hF
      refine Vw (Q' := (fun o16 => OnlyE .normal (fun E' lw lc => Ya E' lw lc [(2, .int .i64 p2), (4, .ptr (n + 0) 0 0 0), (6, .ptr (n + 1) 0 0 0), (41, .bool o16.1)] low [⟨34, 5, [.agg [.int .i64 o16.2.Time, .sl (n + 2) 0 0 (o16.2.States).length, .sl (n + 3) 0 0 (o16.2.Since).length, .sl (n + 4) 0 0 (o16.2.Pulled).length, .vs 1 (List.map PV.bool o16.2.Held)]], 0⟩, ⟨34, 5, [.agg [.int .i64 0, .nils, .nils, .nils, .nils]], 0⟩, ⟨3, 1, List.map (PV.int .i64) o16.2.States, 0⟩, ⟨3, 1, List.map (PV.int .i64) o16.2.Since, 0⟩, ⟨4, 1, List.map PV.bool o16.2.Pulled, 0⟩])) o16) ?_ ?_
      ·replace hF := ho16
       obtain ⟨x17, h18, hF⟩ := Ys hF
       rcases Bool.eq_false_or_eq_true (decide (0 ≤ x17.Onto)) with c19 | c19
       ·have hF := Yl c19 hF
        obtain ⟨x20, h21, hF⟩ := Ys hF
        obtain ⟨x22, h23, hF⟩ := Ys hF
        refine Zf [[], [], [0, 1], [0, 1, 2], [0, 1, 2, 3], [0, 1, 2, 3, 4], [0, 1, 2, 3, 4, 5], [0, 1, 2, 3, 4, 5, 6], [0, 1, 2, 3, 4, 5, 6, 7], [0, 1, 2, 3, 4, 5, 6], [0, 1, 2, 3, 4, 5, 6], [0, 1, 2, 3, 4, 5, 6, 9, 10], [0, 1, 2, 3, 4, 5, 6, 9, 10, 11], [0, 1, 2, 3, 4, 5, 6, 9, 10, 11, 12], [0, 1, 2, 3, 4, 5, 6, 7, 8, 9, 10, 11, 12, 13], [0, 1, 2, 3, 4, 5, 6, 7, 8, 9, 10, 11, 12, 13, 14], [0, 1, 2, 3, 4, 5, 6, 7, 8, 9, 10, 11, 12, 13, 14, 15], [0, 1, 2, 3, 4, 5, 6, 7, 8, 9, 10, 11, 12, 13, 14, 15, 16], [0, 1, 2, 3, 4, 5, 6, 7, 8, 9, 10, 11, 12, 13, 14, 15, 16, 17]] mixed (by kernel_rfl) rfl ?_
        refine Yn rfl rfl (Xd rfl) ?_
        refine Yn rfl rfl (Vj rfl) ?_
        refine Yn rfl rfl (Xi (Yj rfl rfl h18 te_27 ts_31) (v' := .vptr [.int .i64 x17.Onto, .int .i64 x17.Warn] 0) rfl) ?_
        refine Yn rfl rfl (Yb rfl tf_31_0 ts_3 (by decide)) ?_
        refine Yn rfl rfl (Xg rfl ta_3 rfl) ?_
        refine Yn rfl rfl (rd_geq rfl rfl) ?_
        refine Yn rfl rfl (Vm rfl) ?_
        refine Zk rfl rfl rfl rfl c19 (Vc rfl tf_34_1 ts_22 (by decide)) ?_
        refine Zk rfl rfl rfl rfl c19 (Vf rfl (Vd hn rfl) rfl ta_22 rfl) ?_
        refine Zk rfl rfl rfl rfl c19 (Xd rfl) ?_
        refine Zk rfl rfl rfl rfl c19 (Vj rfl) ?_
        refine Zk rfl rfl rfl rfl c19 (Xi (Yj rfl rfl h21 te_27 ts_31) (v' := .vptr [.int .i64 x20.Onto, .int .i64 x20.Warn] 0) rfl) ?_
        refine Zk rfl rfl rfl rfl c19 (Yb rfl tf_31_0 ts_3 (by decide)) ?_
        refine Zk rfl rfl rfl rfl c19 (Xg rfl ta_3 rfl) ?_
        refine Zk rfl rfl rfl rfl c19 (Zv rfl rfl rfl (Vd hn rfl) h23 te_22 ts_3) ?_
        refine Zk rfl rfl rfl rfl c19 (rd_ldL1 rfl (Vd hn rfl) (Zc h23).2 ta_3 rfl) ?_
        refine Zk rfl rfl rfl rfl c19 (Zb rfl rfl) ?_
        refine Yn rfl rfl (Vp (congrArg PV.bool c19) rfl) ?_
        refine Yn rfl rfl (Xy rfl) ?_
        refine Yz ?_
        obtain rfl := Option.some.inj hF
        refine Xv ?_
        exact Vq ⟨rfl, rfl, rfl, rfl, trivial⟩
       ·have hF := Ym c19 hF
        refine Zf [[], [], [0, 1], [0, 1, 2], [0, 1, 2, 3], [0, 1, 2, 3, 4], [0, 1, 2, 3, 4, 5], [0, 1, 2, 3, 4, 5, 6], [0, 1, 2, 3, 4, 5, 6, 7], [0, 1, 2, 3, 4, 5, 6], [0, 1, 2, 3, 4, 5, 6], [0, 1, 2, 3, 4, 5, 6, 9, 10], [0, 1, 2, 3, 4, 5, 6, 9, 10, 11], [0, 1, 2, 3, 4, 5, 6, 9, 10, 11, 12], [0, 1, 2, 3, 4, 5, 6, 7, 8, 9, 10, 11, 12, 13], [0, 1, 2, 3, 4, 5, 6, 7, 8, 9, 10, 11, 12, 13, 14], [0, 1, 2, 3, 4, 5, 6, 7, 8, 9, 10, 11, 12, 13, 14, 15], [0, 1, 2, 3, 4, 5, 6, 7, 8, 9, 10, 11, 12, 13, 14, 15, 16], [0, 1, 2, 3, 4, 5, 6, 7, 8, 9, 10, 11, 12, 13, 14, 15, 16, 17]] mixed (by kernel_rfl) rfl ?_
        refine Yn rfl rfl (Xd rfl) ?_
        refine Yn rfl rfl (Vj rfl) ?_
        refine Yn rfl rfl (Xi (Yj rfl rfl h18 te_27 ts_31) (v' := .vptr [.int .i64 x17.Onto, .int .i64 x17.Warn] 0) rfl) ?_
        refine Yn rfl rfl (Yb rfl tf_31_0 ts_3 (by decide)) ?_
        refine Yn rfl rfl (Xg rfl ta_3 rfl) ?_
        refine Yn rfl rfl (rd_geq rfl rfl) ?_
        refine Yn rfl rfl (Vm rfl) ?_
        refine Vn rfl rfl rfl (Zm c19) ?_
        refine Vn rfl rfl rfl (Zm c19) ?_
        refine Vn rfl rfl rfl (Zm c19) ?_
        refine Vn rfl rfl rfl (Zm c19) ?_
        refine Vn rfl rfl rfl (Zm c19) ?_
        refine Vn rfl rfl rfl (Zm c19) ?_
        refine Vn rfl rfl rfl (Zm c19) ?_
        refine Vn rfl rfl rfl (Zm c19) ?_
        refine Vn rfl rfl rfl (Zm c19) ?_
        refine Vn rfl rfl rfl (Zm c19) ?_
        refine Yn rfl rfl (Vo (congrArg PV.bool c19) rfl) ?_
        refine Yn rfl rfl (Xy rfl) ?_
        refine Yz ?_
        obtain rfl := Option.some.inj hF
        refine Xv ?_
        exact Vq ⟨rfl, rfl, rfl, rfl, trivial⟩
      ·rintro _ _ _ _ ⟨rfl, hw⟩
       refine ⟨_, _, _, hw, ?_⟩
       refine Xj rfl (fun c24 => ?_) (fun c24 => ?_)
       ·have hF := Yl c24 hF
        refine Vi ?_
        refine Ve ?_
        refine Va (Vu (ds := [.int .i64 o16.2.Time, .sl (n + 2) 0 0 (o16.2.States).length, .sl (n + 3) 0 0 (o16.2.Since).length, .sl (n + 4) 0 0 (o16.2.Pulled).length, .vs 1 (List.map PV.bool o16.2.Held)]) rfl (Vd hn rfl) rfl ta_34 ts_34 rfl rfl rfl) rfl ?_
        refine Vk (Vx (p := .agg [.int .i64 o16.2.Time, .sl (n + 2) 0 0 (o16.2.States).length, .sl (n + 3) 0 0 (o16.2.Since).length, .sl (n + 4) 0 0 (o16.2.Pulled).length, .vs 1 (List.map PV.bool o16.2.Held)]) (e' := .agg [.int .i64 o16.2.Time, .sl (n + 2) 0 0 (o16.2.States).length, .sl (n + 3) 0 0 (o16.2.Since).length, .sl (n + 4) 0 0 (o16.2.Pulled).length, .vs 1 (List.map PV.bool o16.2.Held)]) rfl (Vd hn rfl) rfl rfl ts_34 rfl (Yc rfl) rfl (Nat.le_of_ble_eq_true rfl) rfl (Xr hn rfl)) rfl ?_
        refine Va (Xa rfl) rfl ?_
        refine Vg ?_
        refine Xb ?_
        obtain rfl := Option.some.inj hF
        refine Zy ?_
        exact Vv hn [(2, 0), (3, 0), (4, 0), (1, 0)] (by decide) ⟨Yo 3 1 rfl rfl, Vs rfl (.int _ _), trivial⟩ ⟨⟨_, rfl, rfl, .same _ _ _ _ (Vh (fun _ => .int _ _))⟩, ⟨_, rfl, rfl, .same _ _ _ _ (Vh (fun _ => .int _ _))⟩, ⟨_, rfl, rfl, .same _ _ _ _ (Vh (fun _ => .bool _))⟩, ⟨_, rfl, rfl, .agg _ _ _ _ _ ⟨Vs rfl (.int _ _), Xu 0 2 rfl rfl, Xu 1 3 rfl rfl, Xu 2 4 rfl rfl, Vs rfl (.vs _ _), trivial⟩⟩, trivial⟩
       ·have hF := Ym c24 hF
        refine Xq ?_
        refine Vi ?_
        obtain ⟨x25, h26, hF⟩ := Ys hF
        obtain ⟨x27, h28, hF⟩ := Ys hF
        refine Wb [[], [0], [], [], [3], [], [], [6], [0, 1, 2], [0, 1, 2, 8], [0, 1, 2, 3, 4, 5, 6, 7, 8, 9], [0, 1, 2, 3, 4, 5, 6, 7, 8, 9, 10]] [false, false, false, false, false, false, false, false, false, true, false, true] [(low, [⟨34, 5, [.agg [.int .i64 o16.2.Time, .sl (n + 2) 0 0 (o16.2.States).length, .sl (n + 3) 0 0 (o16.2.Since).length, .sl (n + 4) 0 0 (o16.2.Pulled).length, .vs 1 (List.map PV.bool o16.2.Held)]], 0⟩, ⟨34, 5, [.agg [.int .i64 0, .nils, .nils, .nils, .nils]], 0⟩, ⟨3, 1, List.map (PV.int .i64) o16.2.States, 0⟩, ⟨3, 1, List.map (PV.int .i64) o16.2.Since, 0⟩, ⟨4, 1, List.map PV.bool o16.2.Pulled, 0⟩]), (low, [⟨34, 5, [.agg [.int .i64 o16.2.Time, .sl (n + 2) 0 0 (o16.2.States).length, .sl (n + 3) 0 0 (o16.2.Since).length, .sl (n + 4) 0 0 (o16.2.Pulled).length, .vs 1 (List.map PV.bool o16.2.Held)]], 0⟩, ⟨34, 5, [.agg [.int .i64 0, .nils, .nils, .nils, .nils]], 0⟩, ⟨3, 1, List.map (PV.int .i64) (o16.2.States.set ((p2).toNat) 1), 0⟩, ⟨3, 1, List.map (PV.int .i64) o16.2.Since, 0⟩, ⟨4, 1, List.map PV.bool o16.2.Pulled, 0⟩]), (low, [⟨34, 5, [.agg [.int .i64 o16.2.Time, .sl (n + 2) 0 0 (o16.2.States).length, .sl (n + 3) 0 0 (o16.2.Since).length, .sl (n + 4) 0 0 (o16.2.Pulled).length, .vs 1 (List.map PV.bool o16.2.Held)]], 0⟩, ⟨34, 5, [.agg [.int .i64 0, .nils, .nils, .nils, .nils]], 0⟩, ⟨3, 1, List.map (PV.int .i64) (o16.2.States.set ((p2).toNat) 1), 0⟩, ⟨3, 1, List.map (PV.int .i64) (o16.2.Since.set ((p2).toNat) o16.2.Time), 0⟩, ⟨4, 1, List.map PV.bool o16.2.Pulled, 0⟩])] mixed (by kernel_rfl) rfl (lenAll (Yg rfl (Yg rfl (Yg rfl Zt)))) rfl _ rfl rfl ?_
        refine Yn rfl rfl (Vc rfl tf_34_1 ts_22 (by decide)) ?_
        refine Yn rfl rfl (Vf rfl (Vd hn rfl) rfl ta_22 rfl) ?_
        refine Yn rfl rfl (Vj rfl) ?_
        refine Yy _ rfl rfl (Yg (Xh.ntl (Vc rfl tf_34_2 ts_22 (by decide))) (Yg (Xh.ntl (Vc rfl tf_34_2 ts_22 (by decide))) Zt)) ?_
        refine Yy _ rfl rfl (Yg (Xh.ntl (Vf rfl (Vd hn rfl) rfl ta_22 rfl)) (Yg (Xh.ntl (Vf rfl (Vd hn rfl) rfl ta_22 rfl)) Zt)) ?_
        refine Yy _ rfl rfl (Yg (Xh.ntl (Vj rfl)) (Yg (Xh.ntl (Vj rfl)) Zt)) ?_
        refine Yy _ rfl rfl (Yg (Xh.ntl (Vc rfl tf_34_0 ts_3 (by decide))) (Yg (Xh.ntl (Vc rfl tf_34_0 ts_3 (by decide))) Zt)) ?_
        refine Yy _ rfl rfl (Yg (Xh.ntl (Vf rfl (Vd hn rfl) rfl ta_3 rfl)) (Yg (Xh.ntl (Vf rfl (Vd hn rfl) rfl ta_3 rfl)) Zt)) ?_
        refine Yn rfl rfl (Zv rfl rfl rfl (Vd hn rfl) h26 te_22 ts_3) ?_
        refine Zp rfl rfl rfl (vef_stL (p := .int .i64 1) (e' := 1) rfl (Vd hn rfl) (Zc h26).2 rfl ts_3 rfl (Yc rfl) (Nat.le_of_ble_eq_true rfl) rfl (Xr hn rfl)) ?_
        refine Yn rfl rfl (Zv rfl rfl rfl (Vd hn rfl) h28 te_22 ts_3) ?_
        refine Zp rfl rfl rfl (vef_stL (p := .int .i64 o16.2.Time) (e' := o16.2.Time) rfl (Vd hn rfl) (Zc h28).2 rfl ts_3 rfl (Yc rfl) (Nat.le_of_ble_eq_true rfl) rfl (Xr hn rfl)) ?_
        refine Yz ?_
        refine Vi ?_
        refine Ve ?_
        refine Va (Vu (ds := [.int .i64 o16.2.Time, .sl (n + 2) 0 0 (o16.2.States).length, .sl (n + 3) 0 0 (o16.2.Since).length, .sl (n + 4) 0 0 (o16.2.Pulled).length, .vs 1 (List.map PV.bool o16.2.Held)]) rfl (Vd hn rfl) rfl ta_34 ts_34 rfl rfl rfl) rfl ?_
        refine Vk (Vx (p := .agg [.int .i64 o16.2.Time, .sl (n + 2) 0 0 (o16.2.States).length, .sl (n + 3) 0 0 (o16.2.Since).length, .sl (n + 4) 0 0 (o16.2.Pulled).length, .vs 1 (List.map PV.bool o16.2.Held)]) (e' := .agg [.int .i64 o16.2.Time, .sl (n + 2) 0 0 (o16.2.States).length, .sl (n + 3) 0 0 (o16.2.Since).length, .sl (n + 4) 0 0 (o16.2.Pulled).length, .vs 1 (List.map PV.bool o16.2.Held)]) rfl (Vd hn rfl) rfl rfl ts_34 rfl (Yc rfl) rfl (Nat.le_of_ble_eq_true rfl) rfl (Xr hn rfl)) rfl ?_
        refine Va (Xa rfl) rfl ?_
        refine Vg ?_
        refine Xb ?_
        obtain rfl := Option.some.inj hF
        refine Zy ?_
        exact Vv hn [(2, 0), (3, 0), (4, 0), (1, 0)] (by decide) ⟨Yo 3 1 rfl rfl, Vs rfl (.int _ _), trivial⟩ ⟨⟨_, rfl, rfl, .same _ _ _ _ (Vh (fun _ => .int _ _))⟩, ⟨_, rfl, rfl, .same _ _ _ _ (Vh (fun _ => .int _ _))⟩, ⟨_, rfl, rfl, .same _ _ _ _ (Vh (fun _ => .bool _))⟩, ⟨_, rfl, rfl, .agg _ _ _ _ _ ⟨Vs rfl (.int _ _), Xu 0 2 rfl (congrArg (PV.sl _ _ 0) (Eq.trans rfl List.length_set.symm)), Xu 1 3 rfl (congrArg (PV.sl _ _ 0) (Eq.trans rfl List.length_set.symm)), Xu 2 4 rfl rfl, Vs rfl (.vs _ _), trivial⟩⟩, trivial⟩
 ·rintro _ _ _ _ ⟨he, hw⟩
  refine ⟨_, _, _, hw, ?_⟩
  exact Zj hn 3 rfl (Nat.le_of_ble_eq_true rfl) he [.agg [.int .i64 r.1.Time, .sl (n + 0) 0 0 (r.1.States).length, .sl (n + 1) 0 0 (r.1.Since).length, .sl (n + 2) 0 0 (r.1.Pulled).length, .vs 1 (List.map PV.bool r.1.Held)], .int .i64 r.2] ⟨Vu rfl (Vd hn rfl) rfl ta_34 ts_34 rfl rfl rfl, rfl, trivial⟩ ((lt_tup ⟨(Xx ⟨.int _ _, .sl _ _ _ _ (Zr rfl), .sl _ _ _ _ (Zr rfl), .sl _ _ _ _ (Zr rfl), .vs _ _, trivial⟩), .int _ _, trivial⟩)) ⟨Vh (fun _ => .int _ _), Vh (fun _ => .int _ _), Vh (fun _ => .bool _), trivial⟩ ⟨rfl, rfl⟩

theorem F_ref39_Wait_ok {p0 : List T_Belt} {p1 : T_Line} {p2 : Int} {r : T_Line × Int} (hF : F_ref39_Wait p0 p1 p2 = some r) (low : List AObj) {n : Nat} (hn : low.length = n) :
    Yv Try.prog 46 [.vs 2 (List.map T_Belt.enc p0), .agg [.int .i64 p1.Time, .vs 1 (List.map (PV.int .i64) p1.States), .vs 1 (List.map (PV.int .i64) p1.Since), .vs 1 (List.map PV.bool p1.Pulled), .vs 1 (List.map PV.bool p1.Held)], .int .i64 p2] low fun x low' => x = .tup [.agg [.int .i64 r.1.Time, .sl (n + 0) 0 0 (r.1.States).length, .sl (n + 1) 0 0 (r.1.Since).length, .sl (n + 2) 0 0 (r.1.Pulled).length, .vs 1 (List.map PV.bool r.1.Held)], .int .i64 r.2] ∧ low' = low ++ [⟨3, 1, List.map (PV.int .i64) r.1.States, 0⟩, ⟨3, 1, List.map (PV.int .i64) r.1.Since, 0⟩, ⟨4, 1, List.map PV.bool r.1.Pulled, 0⟩] := by
 refine Xc (nt := 74) (rs := [.cell 6 34, .tmp 7]) Try.func46 rfl rfl (Nat.le_of_ble_eq_true rfl) rfl ?_
 refine Vw (Q' := FnE (fun E' lw lc => Ya E' lw lc [(6, .ptr (n + 3) 0 0 0), (7, .int .i64 r.2)] low [⟨3, 1, List.map (PV.int .i64) r.1.States, 0⟩, ⟨3, 1, List.map (PV.int .i64) r.1.Since, 0⟩, ⟨4, 1, List.map PV.bool r.1.Pulled, 0⟩, ⟨34, 5, [.agg [.int .i64 r.1.Time, .sl (n + 0) 0 0 (r.1.States).length, .sl (n + 1) 0 0 (r.1.Since).length, .sl (n + 2) 0 0 (r.1.Pulled).length, .vs 1 (List.map PV.bool r.1.Held)]], 0⟩])) ?_ ?_
 ·unfold F_ref39_Wait at hF
  refine Vi ?_
  refine Ve ?_
  refine Vk (Yw hn rfl (v := .agg [.int .i64 p1.Time, .vs 1 (List.map (PV.int .i64) p1.States), .vs 1 (List.map (PV.int .i64) p1.Since), .vs 1 (List.map PV.bool p1.Pulled), .vs 1 (List.map PV.bool p1.Held)]) rfl rfl (Nat.succ_pos _) rfl rfl) rfl ?_
  refine Vk (Xe hn rfl tz_34 rfl rfl (Nat.succ_pos _) rfl) rfl ?_
  refine Va (Xa rfl) rfl ?_
  refine Vg ?_
  refine Vi ?_
  refine Ve ?_
  obtain ⟨x1, h2, hF⟩ := Ys hF
  refine Va (Vu (ds := [.int .i64 p1.Time, .vs 1 (List.map (PV.int .i64) p1.States), .vs 1 (List.map (PV.int .i64) p1.Since), .vs 1 (List.map PV.bool p1.Pulled), .vs 1 (List.map PV.bool p1.Held)]) rfl (Vd hn rfl) rfl ta_34 ts_34 rfl rfl rfl) rfl ?_
  refine Vk (Xf (r := .agg [.int .i64 x1.Time, .sl (n + 2) 0 0 (x1.States).length, .sl (n + 3) 0 0 (x1.Since).length, .sl (n + 4) 0 0 (x1.Pulled).length, .sl (n + 5) 0 0 (x1.Held).length]) (os := [⟨3, 1, List.map (PV.int .i64) x1.States, 0⟩, ⟨3, 1, List.map (PV.int .i64) x1.Since, 0⟩, ⟨4, 1, List.map PV.bool x1.Pulled, 0⟩, ⟨4, 1, List.map PV.bool x1.Held, 0⟩]) rfl Try.call23 (F_ref39_Copy_ok h2 _ (Xn hn rfl))) rfl ?_
  refine Vk (Vx (p := .agg [.int .i64 x1.Time, .sl (n + 2) 0 0 (x1.States).length, .sl (n + 3) 0 0 (x1.Since).length, .sl (n + 4) 0 0 (x1.Pulled).length, .sl (n + 5) 0 0 (x1.Held).length]) (e' := .agg [.int .i64 x1.Time, .sl (n + 2) 0 0 (x1.States).length, .sl (n + 3) 0 0 (x1.Since).length, .sl (n + 4) 0 0 (x1.Pulled).length, .sl (n + 5) 0 0 (x1.Held).length]) rfl (Vd hn rfl) rfl rfl ts_34 rfl (Yc rfl) rfl (Nat.le_of_ble_eq_true rfl) rfl (Xr hn rfl)) rfl ?_
  refine Vg ?_
  refine Vi ?_
  refine Vi ?_
  refine Ve ?_
  obtain ⟨x3, h4, hF⟩ := Ys hF
  refine Va (Xd rfl) rfl ?_
  refine Va (Vu (ds := [.int .i64 x1.Time, .sl (n + 2) 0 0 (x1.States).length, .sl (n + 3) 0 0 (x1.Since).length, .sl (n + 4) 0 0 (x1.Pulled).length, .sl (n + 5) 0 0 (x1.Held).length]) rfl (Vd hn rfl) rfl ta_34 ts_34 rfl rfl rfl) rfl ?_
  refine Vk (vef_callB (vs := [.vs 2 (List.map T_Belt.enc p0), .agg [.int .i64 x1.Time, .vs 1 (List.map (PV.int .i64) x1.States), .vs 1 (List.map (PV.int .i64) x1.Since), .vs 1 (List.map PV.bool x1.Pulled), .vs 1 (List.map PV.bool x1.Held)]]) rfl Try.call41 ⟨Zg rfl (.vs _ _), view_agg rfl ⟨Zg rfl (.int _ _), Zl rfl (Vd hn rfl) rfl rfl (Yh (fun _ => .int _ _)) (Vy rfl), Zl rfl (Vd hn rfl) rfl rfl (Yh (fun _ => .int _ _)) (Vy rfl), Zl rfl (Vd hn rfl) rfl rfl (Yh (fun _ => .bool _)) (Vy rfl), Zl rfl (Vd hn rfl) rfl rfl (Yh (fun _ => .bool _)) (Vy rfl), trivial⟩, trivial⟩ ((F_ref39_Valid_ok h4 []).mono fun _ _ h => h.1) (.bool _)) rfl ?_
  refine Va (Zn rfl) rfl ?_
  refine Vg ?_
  refine Xj rfl (fun c5 => ?_) (fun c5 => ?_)
  ·have hF := Yl c5 hF
   refine Vi ?_
   refine Ve ?_
   refine Va (Vu (ds := [.int .i64 x1.Time, .sl (n + 2) 0 0 (x1.States).length, .sl (n + 3) 0 0 (x1.Since).length, .sl (n + 4) 0 0 (x1.Pulled).length, .sl (n + 5) 0 0 (x1.Held).length]) rfl (Vd hn rfl) rfl ta_34 ts_34 rfl rfl rfl) rfl ?_
   refine Vk (Vx (p := .agg [.int .i64 x1.Time, .sl (n + 2) 0 0 (x1.States).length, .sl (n + 3) 0 0 (x1.Since).length, .sl (n + 4) 0 0 (x1.Pulled).length, .sl (n + 5) 0 0 (x1.Held).length]) (e' := .agg [.int .i64 x1.Time, .sl (n + 2) 0 0 (x1.States).length, .sl (n + 3) 0 0 (x1.Since).length, .sl (n + 4) 0 0 (x1.Pulled).length, .sl (n + 5) 0 0 (x1.Held).length]) rfl (Vd hn rfl) rfl rfl ts_34 rfl (Yc rfl) rfl (Nat.le_of_ble_eq_true rfl) rfl (Xr hn rfl)) rfl ?_
   refine Va (Xa rfl) rfl ?_
   refine Vg ?_
   refine Xb ?_
   obtain rfl := Option.some.inj hF
   refine Zy ?_
   refine Ya.trans (Xp (E' := [(6, .ptr (n + 1) 0 0 0), (7, .int .i64 6)]) (loc1 := [⟨34, 5, [.agg [.int .i64 x1.Time, .sl (n + 2) 0 0 (x1.States).length, .sl (n + 3) 0 0 (x1.Since).length, .sl (n + 4) 0 0 (x1.Pulled).length, .vs 1 (List.map PV.bool x1.Held)]], 0⟩, ⟨34, 5, [.agg [.int .i64 x1.Time, .sl (n + 2) 0 0 (x1.States).length, .sl (n + 3) 0 0 (x1.Since).length, .sl (n + 4) 0 0 (x1.Pulled).length, .vs 1 (List.map PV.bool x1.Held)]], 0⟩, ⟨3, 1, List.map (PV.int .i64) x1.States, 0⟩, ⟨3, 1, List.map (PV.int .i64) x1.Since, 0⟩, ⟨4, 1, List.map PV.bool x1.Pulled, 0⟩, ⟨4, 1, [], 0 + 1⟩]) hn 5 rfl (Yh (fun _ => .bool _)) ⟨Vl rfl, Vl rfl, trivial⟩ ⟨Yq ⟨Vl rfl, Vl rfl, Vl rfl, Vl rfl, Zi rfl rfl rfl (Vy rfl), trivial⟩, Yq ⟨Vl rfl, Vl rfl, Vl rfl, Vl rfl, Zi rfl rfl rfl (Vy rfl), trivial⟩, .refl _, .refl _, .refl _, .refl _, trivial⟩) ?_
   exact Vv hn [(2, 0), (3, 0), (4, 0), (1, 0)] (by decide) ⟨Yo 3 1 rfl rfl, Vs rfl (.int _ _), trivial⟩ ⟨⟨_, rfl, rfl, .same _ _ _ _ (Vh (fun _ => .int _ _))⟩, ⟨_, rfl, rfl, .same _ _ _ _ (Vh (fun _ => .int _ _))⟩, ⟨_, rfl, rfl, .same _ _ _ _ (Vh (fun _ => .bool _))⟩, ⟨_, rfl, rfl, .agg _ _ _ _ _ ⟨Vs rfl (.int _ _), Xu 0 2 rfl rfl, Xu 1 3 rfl rfl, Xu 2 4 rfl rfl, Vs rfl (.vs _ _), trivial⟩⟩, trivial⟩
  ·have hF := Ym c5 hF
   refine Xq ?_
   refine Vi ?_
   refine Vi ?_
   obtain ⟨o6, ho6, hF⟩ := Ys hF
   refine Vw (Q' := (fun o6 => OnlyE .normal (fun E' lw lc => Ya E' lw lc [(0, .vs 2 (List.map T_Belt.enc p0)), (2, .int .i64 p2), (4, .ptr (n + 0) 0 0 0), (6, .ptr (n + 1) 0 0 0), (23, .bool o6.1)] low [⟨34, 5, [.agg [.int .i64 o6.2.Time, .sl (n + 2) 0 0 (o6.2.States).length, .sl (n + 3) 0 0 (o6.2.Since).length, .sl (n + 4) 0 0 (o6.2.Pulled).length, .vs 1 (List.map PV.bool o6.2.Held)]], 0⟩, ⟨34, 5, [.agg [.int .i64 0, .nils, .nils, .nils, .nils]], 0⟩, ⟨3, 1, List.map (PV.int .i64) o6.2.States, 0⟩, ⟨3, 1, List.map (PV.int .i64) o6.2.Since, 0⟩, ⟨4, 1, List.map PV.bool o6.2.Pulled, 0⟩])) o6) ?_ ?_
   ·replace hF := ho6
    refine Ve ?_
    rcases Bool.eq_false_or_eq_true (decide (p2 < x1.Time)) with c7 | c7
    ·have hF := Yl c7 hF
     refine Va (Vj rfl) rfl ?_
     refine Va (Vc rfl tf_34_0 ts_3 (by decide)) rfl ?_
     refine Va (Vf rfl (Vd hn rfl) rfl ta_3 rfl) rfl ?_
     refine Va (Zo rfl rfl) rfl ?_
     refine Va (Vm rfl) rfl ?_
     refine Vb rfl rfl (Zh c7) rfl ?_
     refine Vb rfl rfl (Zh c7) rfl ?_
     refine Va (Vp (congrArg PV.bool c7) rfl) rfl ?_
     refine Vg ?_
     obtain rfl := Option.some.inj hF
     refine Xv ?_
     refine Ya.trans (Xp (E' := [(0, .vs 2 (List.map T_Belt.enc p0)), (2, .int .i64 p2), (4, .ptr (n + 0) 0 0 0), (6, .ptr (n + 1) 0 0 0), (23, .bool true)]) (loc1 := [⟨34, 5, [.agg [.int .i64 x1.Time, .sl (n + 2) 0 0 (x1.States).length, .sl (n + 3) 0 0 (x1.Since).length, .sl (n + 4) 0 0 (x1.Pulled).length, .vs 1 (List.map PV.bool x1.Held)]], 0⟩, ⟨34, 5, [.agg [.int .i64 0, .nils, .nils, .nils, .nils]], 0⟩, ⟨3, 1, List.map (PV.int .i64) x1.States, 0⟩, ⟨3, 1, List.map (PV.int .i64) x1.Since, 0⟩, ⟨4, 1, List.map PV.bool x1.Pulled, 0⟩, ⟨4, 1, [], 0 + 1⟩]) hn 5 rfl (Yh (fun _ => .bool _)) ⟨Vl rfl, Vl rfl, Vl rfl, Vl rfl, Vl rfl, trivial⟩ ⟨Yq ⟨Vl rfl, Vl rfl, Vl rfl, Vl rfl, Zi rfl rfl rfl (Vy rfl), trivial⟩, .refl _, .refl _, .refl _, .refl _, .refl _, trivial⟩) ?_
     exact Vv hn [(0, 0), (1, 0), (2, 0), (3, 0), (4, 0)] (by decide) ⟨Vs rfl (.vs _ _), Vs rfl (.int _ _), Yo 0 0 rfl rfl, Yo 1 1 rfl rfl, Vs rfl (.bool _), trivial⟩ ⟨⟨_, rfl, rfl, .agg _ _ _ _ _ ⟨Vs rfl (.int _ _), Xu 2 2 rfl rfl, Xu 3 3 rfl rfl, Xu 4 4 rfl rfl, Vs rfl (.vs _ _), trivial⟩⟩, ⟨_, rfl, rfl, .same _ _ _ _ (Xt ⟨Xx ⟨.int _ _, .nils, .nils, .nils, .nils, trivial⟩, trivial⟩)⟩, ⟨_, rfl, rfl, .same _ _ _ _ (Vh (fun _ => .int _ _))⟩, ⟨_, rfl, rfl, .same _ _ _ _ (Vh (fun _ => .int _ _))⟩, ⟨_, rfl, rfl, .same _ _ _ _ (Vh (fun _ => .bool _))⟩, trivial⟩
    ·have hF := Ym c7 hF
     refine Va (Vj rfl) rfl ?_
     refine Va (Vc rfl tf_34_0 ts_3 (by decide)) rfl ?_
     refine Va (Vf rfl (Vd hn rfl) rfl ta_3 rfl) rfl ?_
     refine Va (Zo rfl rfl) rfl ?_
     refine Va (Vm rfl) rfl ?_
     refine Vz rfl rfl c7 ?_
     refine Va (Vj rfl) rfl ?_
     refine Vz rfl rfl c7 ?_
     refine Va (rd_gtr rfl rfl) rfl ?_
     refine Va (Vo (congrArg PV.bool c7) rfl) rfl ?_
     refine Vg ?_
     obtain rfl := Option.some.inj hF
     refine Xv ?_
     refine Ya.trans (Xp (E' := [(0, .vs 2 (List.map T_Belt.enc p0)), (2, .int .i64 p2), (4, .ptr (n + 0) 0 0 0), (6, .ptr (n + 1) 0 0 0), (23, .bool (decide (2147483648 < p2)))]) (loc1 := [⟨34, 5, [.agg [.int .i64 x1.Time, .sl (n + 2) 0 0 (x1.States).length, .sl (n + 3) 0 0 (x1.Since).length, .sl (n + 4) 0 0 (x1.Pulled).length, .vs 1 (List.map PV.bool x1.Held)]], 0⟩, ⟨34, 5, [.agg [.int .i64 0, .nils, .nils, .nils, .nils]], 0⟩, ⟨3, 1, List.map (PV.int .i64) x1.States, 0⟩, ⟨3, 1, List.map (PV.int .i64) x1.Since, 0⟩, ⟨4, 1, List.map PV.bool x1.Pulled, 0⟩, ⟨4, 1, [], 0 + 1⟩]) hn 5 rfl (Yh (fun _ => .bool _)) ⟨Vl rfl, Vl rfl, Vl rfl, Vl rfl, Vl rfl, trivial⟩ ⟨Yq ⟨Vl rfl, Vl rfl, Vl rfl, Vl rfl, Zi rfl rfl rfl (Vy rfl), trivial⟩, .refl _, .refl _, .refl _, .refl _, .refl _, trivial⟩) ?_
     exact Vv hn [(0, 0), (1, 0), (2, 0), (3, 0), (4, 0)] (by decide) ⟨Vs rfl (.vs _ _), Vs rfl (.int _ _), Yo 0 0 rfl rfl, Yo 1 1 rfl rfl, Vs rfl (.bool _), trivial⟩ ⟨⟨_, rfl, rfl, .agg _ _ _ _ _ ⟨Vs rfl (.int _ _), Xu 2 2 rfl rfl, Xu 3 3 rfl rfl, Xu 4 4 rfl rfl, Vs rfl (.vs _ _), trivial⟩⟩, ⟨_, rfl, rfl, .same _ _ _ _ (Xt ⟨Xx ⟨.int _ _, .nils, .nils, .nils, .nils, trivial⟩, trivial⟩)⟩, ⟨_, rfl, rfl, .same _ _ _ _ (Vh (fun _ => .int _ _))⟩, ⟨_, rfl, rfl, .same _ _ _ _ (Vh (fun _ => .int _ _))⟩, ⟨_, rfl, rfl, .same _ _ _ _ (Vh (fun _ => .bool _))⟩, trivial⟩
   ·rintro _ _ _ _ ⟨rfl, hw⟩
    refine ⟨_, _, _, hw, ?_⟩
    refine Xj rfl (fun c8 => ?_) (fun c8 => ?_)
    ·have hF := Yl c8 hF
     refine Vi ?_
     refine Ve ?_
     refine Va (Vu (ds := [.int .i64 o6.2.Time, .sl (n + 2) 0 0 (o6.2.States).length, .sl (n + 3) 0 0 (o6.2.Since).length, .sl (n + 4) 0 0 (o6.2.Pulled).length, .vs 1 (List.map PV.bool o6.2.Held)]) rfl (Vd hn rfl) rfl ta_34 ts_34 rfl rfl rfl) rfl ?_
     refine Vk (Vx (p := .agg [.int .i64 o6.2.Time, .sl (n + 2) 0 0 (o6.2.States).length, .sl (n + 3) 0 0 (o6.2.Since).length, .sl (n + 4) 0 0 (o6.2.Pulled).length, .vs 1 (List.map PV.bool o6.2.Held)]) (e' := .agg [.int .i64 o6.2.Time, .sl (n + 2) 0 0 (o6.2.States).length, .sl (n + 3) 0 0 (o6.2.Since).length, .sl (n + 4) 0 0 (o6.2.Pulled).length, .vs 1 (List.map PV.bool o6.2.Held)]) rfl (Vd hn rfl) rfl rfl ts_34 rfl (Yc rfl) rfl (Nat.le_of_ble_eq_true rfl) rfl (Xr hn rfl)) rfl ?_
     refine Va (Xa rfl) rfl ?_
     refine Vg ?_
     refine Xb ?_
     obtain rfl := Option.some.inj hF
     refine Zy ?_
     exact Vv hn [(2, 0), (3, 0), (4, 0), (1, 0)] (by decide) ⟨Yo 3 1 rfl rfl, Vs rfl (.int _ _), trivial⟩ ⟨⟨_, rfl, rfl, .same _ _ _ _ (Vh (fun _ => .int _ _))⟩, ⟨_, rfl, rfl, .same _ _ _ _ (Vh (fun _ => .int _ _))⟩, ⟨_, rfl, rfl, .same _ _ _ _ (Vh (fun _ => .bool _))⟩, ⟨_, rfl, rfl, .agg _ _ _ _ _ ⟨Vs rfl (.int _ _), Xu 0 2 rfl rfl, Xu 1 3 rfl rfl, Xu 2 4 rfl rfl, Vs rfl (.vs _ _), trivial⟩⟩, trivial⟩
    ·have hF := Ym c8 hF
     refine Xq ?_
     refine Vi ?_
     refine Vi ?_
     refine Ve ?_
     refine Va (Xa rfl) rfl ?_
     refine Vg ?_
     refine Yk ?_
     obtain ⟨o10, ho10, hF⟩ := Ys hF
     refine Vw (Zu (F_ref39_Wait_L1 p0 p2) (fun s9 E' lw lc => Ya E' lw lc [(0, .vs 2 (List.map T_Belt.enc p0)), (2, .int .i64 p2), (4, .ptr (n + 0) 0 0 0), (6, .ptr (n + 1) 0 0 0), (8, .int .i64 s9.1)] low [⟨34, 5, [.agg [.int .i64 s9.2.Time, .sl (n + 2) 0 0 (s9.2.States).length, .sl (n + 3) 0 0 (s9.2.Since).length, .sl (n + 4) 0 0 (s9.2.Pulled).length, .vs 1 (List.map PV.bool s9.2.Held)]], 0⟩, ⟨34, 5, [.agg [.int .i64 0, .nils, .nils, .nils, .nils]], 0⟩, ⟨3, 1, List.map (PV.int .i64) s9.2.States, 0⟩, ⟨3, 1, List.map (PV.int .i64) s9.2.Since, 0⟩, ⟨4, 1, List.map PV.bool s9.2.Pulled, 0⟩]) (fun o10 => OnlyE (.exit 0) (fun E' lw lc => Ya E' lw lc [(2, .int .i64 p2), (4, .ptr (n + 0) 0 0 0), (6, .ptr (n + 1) 0 0 0)] low [⟨34, 5, [.agg [.int .i64 o10.Time, .sl (n + 2) 0 0 (o10.States).length, .sl (n + 3) 0 0 (o10.Since).length, .sl (n + 4) 0 0 (o10.Pulled).length, .vs 1 (List.map PV.bool o10.Held)]], 0⟩, ⟨34, 5, [.agg [.int .i64 0, .nils, .nils, .nils, .nils]], 0⟩, ⟨3, 1, List.map (PV.int .i64) o10.States, 0⟩, ⟨3, 1, List.map (PV.int .i64) o10.Since, 0⟩, ⟨4, 1, List.map PV.bool o10.Pulled, 0⟩])) ho10 ?_ (by rintro _ _ _ _ ⟨h, _⟩ <;> cases h) ?_) ?_
     ·exact Vq ⟨rfl, rfl, rfl, rfl, rfl, trivial⟩
     ·rintro s9 os9 _ _ _ hF hw
      unfold F_ref39_Wait_L1 at hF
      refine Ye hw ?_
      refine Vi ?_
      refine Vi ?_
      refine Ve ?_
      refine Va (Vj rfl) rfl ?_
      refine Va (Xd rfl) rfl ?_
      refine Va (Xi (Xo rfl rfl te_27) (congrArg (fun n : Nat => PV.int .i64 (n : Int)) (List.length_map _))) rfl ?_
      refine Va (Zo rfl rfl) rfl ?_
      refine Vg ?_
      refine Xj rfl (fun c11 => ?_) (fun c11 => ?_)
      ·have hF := Yl c11 hF
       refine Xq ?_
       refine Vi ?_
       obtain ⟨o12, ho12, hF⟩ := Ys hF
       refine Vw (Q' := (fun o12 => OnlyE .normal (fun E' lw lc => Ya E' lw lc [(0, .vs 2 (List.map T_Belt.enc p0)), (2, .int .i64 p2), (4, .ptr (n + 0) 0 0 0), (6, .ptr (n + 1) 0 0 0), (8, .int .i64 s9.1)] low [⟨34, 5, [.agg [.int .i64 o12.Time, .sl (n + 2) 0 0 (o12.States).length, .sl (n + 3) 0 0 (o12.Since).length, .sl (n + 4) 0 0 (o12.Pulled).length, .vs 1 (List.map PV.bool o12.Held)]], 0⟩, ⟨34, 5, [.agg [.int .i64 0, .nils, .nils, .nils, .nils]], 0⟩, ⟨3, 1, List.map (PV.int .i64) o12.States, 0⟩, ⟨3, 1, List.map (PV.int .i64) o12.Since, 0⟩, ⟨4, 1, List.map PV.bool o12.Pulled, 0⟩])) o12) ?_ ?_
       ·replace hF := ho12
        refine Yk ?_
        refine Vi ?_
        obtain ⟨o13, ho13, hF⟩ := Ys hF
        refine Vw (Q' := (fun o13 => OnlyE .normal (fun E' lw lc => Ya E' lw lc [(0, .vs 2 (List.map T_Belt.enc p0)), (2, .int .i64 p2), (4, .ptr (n + 0) 0 0 0), (6, .ptr (n + 1) 0 0 0), (8, .int .i64 s9.1), (51, .bool o13.1)] low [⟨34, 5, [.agg [.int .i64 o13.2.Time, .sl (n + 2) 0 0 (o13.2.States).length, .sl (n + 3) 0 0 (o13.2.Since).length, .sl (n + 4) 0 0 (o13.2.Pulled).length, .vs 1 (List.map PV.bool o13.2.Held)]], 0⟩, ⟨34, 5, [.agg [.int .i64 0, .nils, .nils, .nils, .nils]], 0⟩, ⟨3, 1, List.map (PV.int .i64) o13.2.States, 0⟩, ⟨3, 1, List.map (PV.int .i64) o13.2.Since, 0⟩, ⟨4, 1, List.map PV.bool o13.2.Pulled, 0⟩])) o13) ?_ ?_
        ·replace hF := ho13
         obtain ⟨x14, h15, hF⟩ := Ys hF
         rcases Bool.eq_false_or_eq_true (decide (x14 = 1)) with c16 | c16
         ·have hF := Yl c16 hF
          obtain ⟨x17, h18, hF⟩ := Ys hF
          obtain ⟨x19, h20, hF⟩ := Ys hF
          refine Zf [[], [0], [], [0, 1, 2], [0, 1, 2, 3], [0, 1, 2, 3, 4], [0, 1, 2, 3, 4, 5], [0, 1, 2, 3, 4, 5, 6], [0, 1, 2, 3, 4, 5, 6, 7], [0, 1, 2, 3, 4, 5, 6], [0, 1, 2, 3, 4, 5, 6, 7, 8, 9], [0, 1, 2, 3, 4, 5, 6, 7, 8, 9, 10], [0, 1, 2, 3, 4, 5, 6], [0, 1, 2, 3, 4, 5, 6], [0, 1, 2, 3, 4, 5, 6, 12, 13], [0, 1, 2, 3, 4, 5, 6, 12, 13, 14], [0, 1, 2, 3, 4, 5, 6, 12, 13, 14, 15], [0, 1, 2, 3, 4, 5, 6, 7, 8, 9, 10, 11, 12, 13, 14, 15, 16], [0, 1, 2, 3, 4, 5, 6], [0, 1, 2, 3, 4, 5, 6, 7, 8, 9, 10, 11, 12, 13, 14, 15, 16, 17, 18], [0, 1, 2, 3, 4, 5, 6, 7, 8, 9, 10, 11, 12, 13, 14, 15, 16, 17, 18, 19]] mixed (by kernel_rfl) rfl ?_
          refine Yn rfl rfl (Vc rfl tf_34_1 ts_22 (by decide)) ?_
          refine Yn rfl rfl (Vf rfl (Vd hn rfl) rfl ta_22 rfl) ?_
          refine Yn rfl rfl (Vj rfl) ?_
          refine Yn rfl rfl (Zv rfl rfl rfl (Vd hn rfl) h15 te_22 ts_3) ?_
          refine Yn rfl rfl (rd_ldL1 rfl (Vd hn rfl) (Zc h15).2 ta_3 rfl) ?_
          refine Yn rfl rfl (Xm rfl rfl) ?_
          refine Yn rfl rfl (Vm rfl) ?_
          refine Zk rfl rfl rfl rfl c16 (Vc rfl tf_34_2 ts_22 (by decide)) ?_
          refine Zk rfl rfl rfl rfl c16 (Vf rfl (Vd hn rfl) rfl ta_22 rfl) ?_
          refine Zk rfl rfl rfl rfl c16 (Vj rfl) ?_
          refine Zk rfl rfl rfl rfl c16 (Zv rfl rfl rfl (Vd hn rfl) h18 te_22 ts_3) ?_
          refine Zk rfl rfl rfl rfl c16 (rd_ldL1 rfl (Vd hn rfl) (Zc h18).2 ta_3 rfl) ?_
          refine Zk rfl rfl rfl rfl c16 (Xd rfl) ?_
          refine Zk rfl rfl rfl rfl c16 (Vj rfl) ?_
          refine Zk rfl rfl rfl rfl c16 (Xi (Yj rfl rfl h20 te_27 ts_31) (v' := .vptr [.int .i64 x19.Onto, .int .i64 x19.Warn] 0) rfl) ?_
          refine Zk rfl rfl rfl rfl c16 (Yb rfl tf_31_1 ts_3 (by decide)) ?_
          refine Zk rfl rfl rfl rfl c16 (Xg rfl ta_3 rfl) ?_
          refine Zk rfl rfl rfl rfl c16 (rd_add rfl rfl rfl) ?_
          refine Zk rfl rfl rfl rfl c16 (Vj rfl) ?_
          refine Zk rfl rfl rfl rfl c16 (rd_leq rfl rfl) ?_
          refine Yn rfl rfl (Vp (congrArg PV.bool c16) rfl) ?_
          refine Yz ?_
          obtain rfl := Option.some.inj hF
          refine Xv ?_
          exact Vq ⟨rfl, rfl, rfl, rfl, rfl, rfl, trivial⟩
         ·have hF := Ym c16 hF
          refine Zf [[], [0], [], [0, 1, 2], [0, 1, 2, 3], [0, 1, 2, 3, 4], [0, 1, 2, 3, 4, 5], [0, 1, 2, 3, 4, 5, 6], [0, 1, 2, 3, 4, 5, 6, 7], [0, 1, 2, 3, 4, 5, 6], [0, 1, 2, 3, 4, 5, 6, 7, 8, 9], [0, 1, 2, 3, 4, 5, 6, 7, 8, 9, 10], [0, 1, 2, 3, 4, 5, 6], [0, 1, 2, 3, 4, 5, 6], [0, 1, 2, 3, 4, 5, 6, 12, 13], [0, 1, 2, 3, 4, 5, 6, 12, 13, 14], [0, 1, 2, 3, 4, 5, 6, 12, 13, 14, 15], [0, 1, 2, 3, 4, 5, 6, 7, 8, 9, 10, 11, 12, 13, 14, 15, 16], [0, 1, 2, 3, 4, 5, 6], [0, 1, 2, 3, 4, 5, 6, 7, 8, 9, 10, 11, 12, 13, 14, 15, 16, 17, 18], [0, 1, 2, 3, 4, 5, 6, 7, 8, 9, 10, 11, 12, 13, 14, 15, 16, 17, 18, 19]] mixed (by kernel_rfl) rfl ?_
          refine Yn rfl rfl (Vc rfl tf_34_1 ts_22 (by decide)) ?_
          refine Yn rfl rfl (Vf rfl (Vd hn rfl) rfl ta_22 rfl) ?_
          refine Yn rfl rfl (Vj rfl) ?_
          refine Yn rfl rfl (Zv rfl rfl rfl (Vd hn rfl) h15 te_22 ts_3) ?_
          refine Yn rfl rfl (rd_ldL1 rfl (Vd hn rfl) (Zc h15).2 ta_3 rfl) ?_
          refine Yn rfl rfl (Xm rfl rfl) ?_
          refine Yn rfl rfl (Vm rfl) ?_
          refine Vn rfl rfl rfl (Zm c16) ?_
          refine Vn rfl rfl rfl (Zm c16) ?_
          refine Vn rfl rfl rfl (Zm c16) ?_
          refine Vn rfl rfl rfl (Zm c16) ?_
          refine Vn rfl rfl rfl (Zm c16) ?_
          refine Vn rfl rfl rfl (Zm c16) ?_
          refine Vn rfl rfl rfl (Zm c16) ?_
          refine Vn rfl rfl rfl (Zm c16) ?_
          refine Vn rfl rfl rfl (Zm c16) ?_
          refine Vn rfl rfl rfl (Zm c16) ?_
          refine Vn rfl rfl rfl (Zm c16) ?_
          refine Vn rfl rfl rfl (Zm c16) ?_
          refine Vn rfl rfl rfl (Zm c16) ?_
          refine Yn rfl rfl (Vo (congrArg PV.bool c16) rfl) ?_
          refine Yz ?_
          obtain rfl := Option.some.inj hF
          refine Xv ?_
          exact Vq ⟨rfl, rfl, rfl, rfl, rfl, rfl, trivial⟩
        ·rintro _ _ _ _ ⟨rfl, hw⟩
         refine ⟨_, _, _, hw, ?_⟩
         refine Xj rfl (fun c21 => ?_) (fun c21 => ?_)
         ·have hF := Yl c21 hF
          obtain ⟨x22, h23, hF⟩ := Ys hF
          obtain ⟨x24, h25, hF⟩ := Ys hF
          obtain ⟨x26, h27, hF⟩ := Ys hF
          obtain ⟨x28, h29, hF⟩ := Ys hF
          refine Wb [[], [0], [], [], [3], [], [], [6], [], [6, 7, 8], [6, 7, 8, 9], [], [], [11, 12], [11, 12, 13], [11, 12, 13, 14], [6, 7, 8, 9, 10, 11, 12, 13, 14, 15], [0, 1, 2, 6, 7, 8, 9, 10, 11, 12, 13, 14, 15], [0, 1, 2, 6, 7, 8, 9, 10, 11, 12, 13, 14, 15, 17], [0, 1, 2, 3, 4, 5, 6, 7, 8, 9, 10, 11, 12, 13, 14, 15, 16, 17, 18], [0, 1, 2, 3, 4, 5, 6, 7, 8, 9, 10, 11, 12, 13, 14, 15, 16, 17, 18, 19]] [false, false, false, false, false, false, false, false, false, false, false, false, false, false, false, false, false, false, true, false, true] [(low, [⟨34, 5, [.agg [.int .i64 o13.2.Time, .sl (n + 2) 0 0 (o13.2.States).length, .sl (n + 3) 0 0 (o13.2.Since).length, .sl (n + 4) 0 0 (o13.2.Pulled).length, .vs 1 (List.map PV.bool o13.2.Held)]], 0⟩, ⟨34, 5, [.agg [.int .i64 0, .nils, .nils, .nils, .nils]], 0⟩, ⟨3, 1, List.map (PV.int .i64) o13.2.States, 0⟩, ⟨3, 1, List.map (PV.int .i64) o13.2.Since, 0⟩, ⟨4, 1, List.map PV.bool o13.2.Pulled, 0⟩]), (low, [⟨34, 5, [.agg [.int .i64 o13.2.Time, .sl (n + 2) 0 0 (o13.2.States).length, .sl (n + 3) 0 0 (o13.2.Since).length, .sl (n + 4) 0 0 (o13.2.Pulled).length, .vs 1 (List.map PV.bool o13.2.Held)]], 0⟩, ⟨34, 5, [.agg [.int .i64 0, .nils, .nils, .nils, .nils]], 0⟩, ⟨3, 1, List.map (PV.int .i64) (o13.2.States.set ((s9.1).toNat) 2), 0⟩, ⟨3, 1, List.map (PV.int .i64) o13.2.Since, 0⟩, ⟨4, 1, List.map PV.bool o13.2.Pulled, 0⟩]), (low, [⟨34, 5, [.agg [.int .i64 o13.2.Time, .sl (n + 2) 0 0 (o13.2.States).length, .sl (n + 3) 0 0 (o13.2.Since).length, .sl (n + 4) 0 0 (o13.2.Pulled).length, .vs 1 (List.map PV.bool o13.2.Held)]], 0⟩, ⟨34, 5, [.agg [.int .i64 0, .nils, .nils, .nils, .nils]], 0⟩, ⟨3, 1, List.map (PV.int .i64) (o13.2.States.set ((s9.1).toNat) 2), 0⟩, ⟨3, 1, List.map (PV.int .i64) (o13.2.Since.set ((s9.1).toNat) (IntKind.i64.wrap (x22 + x24.Warn))), 0⟩, ⟨4, 1, List.map PV.bool o13.2.Pulled, 0⟩])] mixed (by kernel_rfl) rfl (lenAll (Yg rfl (Yg rfl (Yg rfl Zt)))) rfl _ rfl rfl ?_
          refine Yn rfl rfl (Vc rfl tf_34_1 ts_22 (by decide)) ?_
          refine Yn rfl rfl (Vf rfl (Vd hn rfl) rfl ta_22 rfl) ?_
          refine Yn rfl rfl (Vj rfl) ?_
          refine Yy _ rfl rfl (Yg (Xh.ntl (Vc rfl tf_34_2 ts_22 (by decide))) (Yg (Xh.ntl (Vc rfl tf_34_2 ts_22 (by decide))) Zt)) ?_
          refine Yy _ rfl rfl (Yg (Xh.ntl (Vf rfl (Vd hn rfl) rfl ta_22 rfl)) (Yg (Xh.ntl (Vf rfl (Vd hn rfl) rfl ta_22 rfl)) Zt)) ?_
          refine Yy _ rfl rfl (Yg (Xh.ntl (Vj rfl)) (Yg (Xh.ntl (Vj rfl)) Zt)) ?_
          refine Yn rfl rfl (Vc rfl tf_34_2 ts_22 (by decide)) ?_
          refine Yn rfl rfl (Vf rfl (Vd hn rfl) rfl ta_22 rfl) ?_
          refine Yn rfl rfl (Vj rfl) ?_
          refine Yn rfl rfl (Zv rfl rfl rfl (Vd hn rfl) h23 te_22 ts_3) ?_
          refine Yn rfl rfl (rd_ldL1 rfl (Vd hn rfl) (Zc h23).2 ta_3 rfl) ?_
          refine Yn rfl rfl (Xd rfl) ?_
          refine Yn rfl rfl (Vj rfl) ?_
          refine Yn rfl rfl (Xi (Yj rfl rfl h25 te_27 ts_31) (v' := .vptr [.int .i64 x24.Onto, .int .i64 x24.Warn] 0) rfl) ?_
          refine Yn rfl rfl (Yb rfl tf_31_1 ts_3 (by decide)) ?_
          refine Yn rfl rfl (Xg rfl ta_3 rfl) ?_
          refine Yy _ rfl rfl (Yg (Xh.ntl (rd_add rfl rfl rfl)) (Yg (Xh.ntl (rd_add rfl rfl rfl)) Zt)) ?_
          refine Yn rfl rfl (Zv rfl rfl rfl (Vd hn rfl) h27 te_22 ts_3) ?_
          refine Zp rfl rfl rfl (vef_stL (p := .int .i64 2) (e' := 2) rfl (Vd hn rfl) (Zc h27).2 rfl ts_3 rfl (Yc rfl) (Nat.le_of_ble_eq_true rfl) rfl (Xr hn rfl)) ?_
          refine Yn rfl rfl (Zv rfl rfl rfl (Vd hn rfl) h29 te_22 ts_3) ?_
          refine Zp rfl rfl rfl (vef_stL (p := .int .i64 (IntKind.i64.wrap (x22 + x24.Warn))) (e' := (IntKind.i64.wrap (x22 + x24.Warn))) rfl (Vd hn rfl) (Zc h29).2 rfl ts_3 rfl (Yc rfl) (Nat.le_of_ble_eq_true rfl) rfl (Xr hn rfl)) ?_
          refine Yz ?_
          obtain rfl := Option.some.inj hF
          refine Xv ?_
          exact Vv hn [(0, 0), (1, 0), (2, 0), (3, 0), (4, 0)] (by decide) ⟨Vs rfl (.vs _ _), Vs rfl (.int _ _), Yo 0 0 rfl rfl, Yo 1 1 rfl rfl, Vs rfl (.int _ _), trivial⟩ ⟨⟨_, rfl, rfl, .agg _ _ _ _ _ ⟨Vs rfl (.int _ _), Xu 2 2 rfl (congrArg (PV.sl _ _ 0) (Eq.trans rfl List.length_set.symm)), Xu 3 3 rfl (congrArg (PV.sl _ _ 0) (Eq.trans rfl List.length_set.symm)), Xu 4 4 rfl rfl, Vs rfl (.vs _ _), trivial⟩⟩, ⟨_, rfl, rfl, .same _ _ _ _ (Xt ⟨Xx ⟨.int _ _, .nils, .nils, .nils, .nils, trivial⟩, trivial⟩)⟩, ⟨_, rfl, rfl, .same _ _ _ _ (Vh (fun _ => .int _ _))⟩, ⟨_, rfl, rfl, .same _ _ _ _ (Vh (fun _ => .int _ _))⟩, ⟨_, rfl, rfl, .same _ _ _ _ (Vh (fun _ => .bool _))⟩, trivial⟩
         ·have hF := Ym c21 hF
          refine Xq ?_
          obtain rfl := Option.some.inj hF
          refine Xv ?_
          exact Vq ⟨rfl, rfl, rfl, rfl, rfl, trivial⟩
       ·rintro _ _ _ _ ⟨rfl, hw⟩
        refine ⟨_, _, _, hw, ?_⟩
        refine Ve ?_
        refine Va (Vj rfl) rfl ?_
        refine Va (rd_add rfl rfl rfl) rfl ?_
        refine Va (Xa rfl) rfl ?_
        refine Vg ?_
        obtain rfl := Option.some.inj hF
        refine Xv ?_
        exact Vq ⟨rfl, rfl, rfl, rfl, rfl, trivial⟩
      ·have hF := Ym c11 hF
       refine We ?_
       obtain rfl := Option.some.inj hF
       refine Xv ?_
       exact Vq ⟨rfl, rfl, rfl, trivial⟩
     ·rintro _ _ _ _ ⟨rfl, hw⟩
      refine ⟨_, _, _, hw, ?_⟩
      refine Vi ?_
      refine Ve ?_
      refine Va (Vj rfl) rfl ?_
      refine Va (Vc rfl tf_34_0 ts_3 (by decide)) rfl ?_
      refine Vk (Vx (p := .int .i64 p2) (e' := .agg [.int .i64 p2, .sl (n + 2) 0 0 (o10.States).length, .sl (n + 3) 0 0 (o10.Since).length, .sl (n + 4) 0 0 (o10.Pulled).length, .vs 1 (List.map PV.bool o10.Held)]) rfl (Vd hn rfl) rfl rfl ts_3 rfl (Yc rfl) rfl (Nat.le_of_ble_eq_true rfl) rfl (Xr hn rfl)) rfl ?_
      refine Vg ?_
      refine Vi ?_
      refine Ve ?_
      refine Va (Vu (ds := [.int .i64 p2, .sl (n + 2) 0 0 (o10.States).length, .sl (n + 3) 0 0 (o10.Since).length, .sl (n + 4) 0 0 (o10.Pulled).length, .vs 1 (List.map PV.bool o10.Held)]) rfl (Vd hn rfl) rfl ta_34 ts_34 rfl rfl rfl) rfl ?_
      refine Vk (Vx (p := .agg [.int .i64 p2, .sl (n + 2) 0 0 (o10.States).length, .sl (n + 3) 0 0 (o10.Since).length, .sl (n + 4) 0 0 (o10.Pulled).length, .vs 1 (List.map PV.bool o10.Held)]) (e' := .agg [.int .i64 p2, .sl (n + 2) 0 0 (o10.States).length, .sl (n + 3) 0 0 (o10.Since).length, .sl (n + 4) 0 0 (o10.Pulled).length, .vs 1 (List.map PV.bool o10.Held)]) rfl (Vd hn rfl) rfl rfl ts_34 rfl (Yc rfl) rfl (Nat.le_of_ble_eq_true rfl) rfl (Xr hn rfl)) rfl ?_
      refine Va (Xa rfl) rfl ?_
      refine Vg ?_
      refine Xb ?_
      obtain rfl := Option.some.inj hF
      refine Zy ?_
      exact Vv hn [(2, 0), (3, 0), (4, 0), (1, 0)] (by decide) ⟨Yo 3 1 rfl rfl, Vs rfl (.int _ _), trivial⟩ ⟨⟨_, rfl, rfl, .same _ _ _ _ (Vh (fun _ => .int _ _))⟩, ⟨_, rfl, rfl, .same _ _ _ _ (Vh (fun _ => .int _ _))⟩, ⟨_, rfl, rfl, .same _ _ _ _ (Vh (fun _ => .bool _))⟩, ⟨_, rfl, rfl, .agg _ _ _ _ _ ⟨Vs rfl (.int _ _), Xu 0 2 rfl rfl, Xu 1 3 rfl rfl, Xu 2 4 rfl rfl, Vs rfl (.vs _ _), trivial⟩⟩, trivial⟩
 ·rintro _ _ _ _ ⟨he, hw⟩
  refine ⟨_, _, _, hw, ?_⟩
  exact Zj hn 3 rfl (Nat.le_of_ble_eq_true rfl) he [.agg [.int .i64 r.1.Time, .sl (n + 0) 0 0 (r.1.States).length, .sl (n + 1) 0 0 (r.1.Since).length, .sl (n + 2) 0 0 (r.1.Pulled).length, .vs 1 (List.map PV.bool r.1.Held)], .int .i64 r.2] ⟨Vu rfl (Vd hn rfl) rfl ta_34 ts_34 rfl rfl rfl, rfl, trivial⟩ ((lt_tup ⟨(Xx ⟨.int _ _, .sl _ _ _ _ (Zr rfl), .sl _ _ _ _ (Zr rfl), .sl _ _ _ _ (Zr rfl), .vs _ _, trivial⟩), .int _ _, trivial⟩)) ⟨Vh (fun _ => .int _ _), Vh (fun _ => .int _ _), Vh (fun _ => .bool _), trivial⟩ ⟨rfl, rfl⟩

theorem F_belts_Stop_1_ok0 {p0 : T_Line} {p1 : List T_Belt} {p2 : Int} {r : T_Line} (hF : F_belts_Stop_1 p0 p1 p2 = some r) {low0 : List AObj} {q0 q1 q2 q3 q4 q5 q6 w0 w1 w2 w3 w4 w5 w6 : Nat} (hB : Bor low0 [q0, q1, q2, q3, q4, q5, q6]) {m1 : Nat} (hm1 : m1 = (p0.States).length) {m2 : Nat} (hm2 : m2 = (p0.Since).length) {m3 : Nat} (hm3 : m3 = (p0.Pulled).length) {m4 : Nat} (hm4 : m4 = (p0.Held).length) {n : Nat} (hn : low0.length = n) :
    Yv Try.prog 51 [.ptr q0 w0 0 0, .ptr q5 w5 0 0, .ptr q6 w6 0 0] (setL low0 [(q0, ⟨34, 5, [.agg [.int .i64 p0.Time, .sl q1 w1 0 m1, .sl q2 w2 0 m2, .sl q3 w3 0 m3, .sl q4 w4 0 m4]], w0⟩), (q1, ⟨3, 1, List.map (PV.int .i64) p0.States, w1⟩), (q2, ⟨3, 1, List.map (PV.int .i64) p0.Since, w2⟩), (q3, ⟨4, 1, List.map PV.bool p0.Pulled, w3⟩), (q4, ⟨4, 1, List.map PV.bool p0.Held, w4⟩), (q5, ⟨27, 1, [.vs 2 (List.map T_Belt.enc p1)], w5⟩), (q6, ⟨3, 1, [.int .i64 p2], w6⟩)]) fun x low' => x = .tup [] ∧ low' = setL low0 [(q0, ⟨34, 5, [.agg [.int .i64 r.Time, .sl q1 w1 0 m1, .sl q2 w2 0 m2, .sl q3 w3 0 m3, .sl q4 w4 0 m4]], w0⟩), (q1, ⟨3, 1, List.map (PV.int .i64) r.States, w1⟩), (q2, ⟨3, 1, List.map (PV.int .i64) r.Since, w2⟩), (q3, ⟨4, 1, List.map PV.bool r.Pulled, w3⟩), (q4, ⟨4, 1, List.map PV.bool r.Held, w4⟩), (q5, ⟨27, 1, [.vs 2 (List.map T_Belt.enc p1)], w5⟩), (q6, ⟨3, 1, [.int .i64 p2], w6⟩)] ++ [] := by
 refine Xc (nt := 8) (rs := []) Try.func51 rfl rfl (Nat.le_of_ble_eq_true rfl) rfl ?_
 have hq0 : q0 < n := hB.ltN hn 0 rfl
 have hq1 : q1 < n := hB.ltN hn 1 rfl
 have hq2 : q2 < n := hB.ltN hn 2 rfl
 have hq3 : q3 < n := hB.ltN hn 3 rfl
 have hq4 : q4 < n := hB.ltN hn 4 rfl
 have hq5 : q5 < n := hB.ltN hn 5 rfl
 have hq6 : q6 < n := hB.ltN hn 6 rfl
 refine Vw (Q' := FnE (fun E' lw lc => m1 = (r.States).length ∧ m2 = (r.Since).length ∧ m3 = (r.Pulled).length ∧ m4 = (r.Held).length ∧ Ya E' lw lc [] (setL low0 [(q0, ⟨34, 5, [.agg [.int .i64 r.Time, .sl q1 w1 0 m1, .sl q2 w2 0 m2, .sl q3 w3 0 m3, .sl q4 w4 0 m4]], w0⟩), (q1, ⟨3, 1, List.map (PV.int .i64) r.States, w1⟩), (q2, ⟨3, 1, List.map (PV.int .i64) r.Since, w2⟩), (q3, ⟨4, 1, List.map PV.bool r.Pulled, w3⟩), (q4, ⟨4, 1, List.map PV.bool r.Held, w4⟩), (q5, ⟨27, 1, [.vs 2 (List.map T_Belt.enc p1)], w5⟩), (q6, ⟨3, 1, [.int .i64 p2], w6⟩)]) [])) ?_ ?_
 ·unfold F_belts_Stop_1 at hF
  refine Ve ?_
  obtain ⟨x5, h6, hF⟩ := Ys hF
  refine Va (Vf rfl (Za hB rfl 5 rfl) rfl ta_27 rfl) rfl ?_
  refine Va (rd_mvP rfl) rfl ?_
  refine Va (Vf rfl (Za hB rfl 6 rfl) rfl ta_3 rfl) rfl ?_
  refine Vk (Wc (ps := [(q0, ⟨34, 5, [.agg [.int .i64 x5.Time, .sl q1 w1 0 m1, .sl q2 w2 0 m2, .sl q3 w3 0 m3, .sl q4 w4 0 m4]], w0⟩), (q1, ⟨3, 1, List.map (PV.int .i64) x5.States, w1⟩), (q2, ⟨3, 1, List.map (PV.int .i64) x5.Since, w2⟩), (q3, ⟨4, 1, List.map PV.bool x5.Pulled, w3⟩), (q4, ⟨4, 1, List.map PV.bool x5.Held, w4⟩)]) (r := .tup []) (os := []) (low1 := (setL low0 [(q0, ⟨34, 5, [.agg [.int .i64 x5.Time, .sl q1 w1 0 m1, .sl q2 w2 0 m2, .sl q3 w3 0 m3, .sl q4 w4 0 m4]], w0⟩), (q1, ⟨3, 1, List.map (PV.int .i64) x5.States, w1⟩), (q2, ⟨3, 1, List.map (PV.int .i64) x5.Since, w2⟩), (q3, ⟨4, 1, List.map PV.bool x5.Pulled, w3⟩), (q4, ⟨4, 1, List.map PV.bool x5.Held, w4⟩), (q5, ⟨27, 1, [.vs 2 (List.map T_Belt.enc p1)], w5⟩), (q6, ⟨3, 1, [.int .i64 p2], w6⟩)])) (loc1 := []) (loc2 := []) rfl Try.call36 (F_belts_stop_ok h6 (nd1 (Zq (hB.ne 0 1 rfl rfl rfl) (Zq (hB.ne 0 2 rfl rfl rfl) (Zq (hB.ne 0 3 rfl rfl rfl) (Zq (hB.ne 0 4 rfl rfl rfl) na0)))) (nd1 (Zq (hB.ne 1 2 rfl rfl rfl) (Zq (hB.ne 1 3 rfl rfl rfl) (Zq (hB.ne 1 4 rfl rfl rfl) na0))) (nd1 (Zq (hB.ne 2 3 rfl rfl rfl) (Zq (hB.ne 2 4 rfl rfl rfl) na0)) (nd1 (Zq (hB.ne 3 4 rfl rfl rfl) na0) (nd1 na0 nd0))))) hm1 hm2 hm3 hm4 (get_B hB rfl 0 rfl) (get_B hB rfl 1 rfl) (get_B hB rfl 2 rfl) (get_B hB rfl 3 rfl) (get_B hB rfl 4 rfl) (Xn (Vr hn) rfl)) (Wh (ps0' := [(q0, ⟨34, 5, [.agg [.int .i64 x5.Time, .sl q1 w1 0 m1, .sl q2 w2 0 m2, .sl q3 w3 0 m3, .sl q4 w4 0 m4]], w0⟩), (q1, ⟨3, 1, List.map (PV.int .i64) p0.States, w1⟩), (q2, ⟨3, 1, List.map (PV.int .i64) p0.Since, w2⟩), (q3, ⟨4, 1, List.map PV.bool p0.Pulled, w3⟩), (q4, ⟨4, 1, List.map PV.bool p0.Held, w4⟩), (q5, ⟨27, 1, [.vs 2 (List.map T_Belt.enc p1)], w5⟩), (q6, ⟨3, 1, [.int .i64 p2], w6⟩)]) hB rfl 0 rfl (ltObjN hn ⟨Xx ⟨.int _ _, .sl _ _ _ _ hq1, .sl _ _ _ _ hq2, .sl _ _ _ _ hq3, .sl _ _ _ _ hq4, trivial⟩, trivial⟩) rfl (Wh (ps0' := [(q0, ⟨34, 5, [.agg [.int .i64 x5.Time, .sl q1 w1 0 m1, .sl q2 w2 0 m2, .sl q3 w3 0 m3, .sl q4 w4 0 m4]], w0⟩), (q1, ⟨3, 1, List.map (PV.int .i64) x5.States, w1⟩), (q2, ⟨3, 1, List.map (PV.int .i64) p0.Since, w2⟩), (q3, ⟨4, 1, List.map PV.bool p0.Pulled, w3⟩), (q4, ⟨4, 1, List.map PV.bool p0.Held, w4⟩), (q5, ⟨27, 1, [.vs 2 (List.map T_Belt.enc p1)], w5⟩), (q6, ⟨3, 1, [.int .i64 p2], w6⟩)]) hB rfl 1 rfl (Vh (fun _ => .int _ _)) rfl (Wh (ps0' := [(q0, ⟨34, 5, [.agg [.int .i64 x5.Time, .sl q1 w1 0 m1, .sl q2 w2 0 m2, .sl q3 w3 0 m3, .sl q4 w4 0 m4]], w0⟩), (q1, ⟨3, 1, List.map (PV.int .i64) x5.States, w1⟩), (q2, ⟨3, 1, List.map (PV.int .i64) x5.Since, w2⟩), (q3, ⟨4, 1, List.map PV.bool p0.Pulled, w3⟩), (q4, ⟨4, 1, List.map PV.bool p0.Held, w4⟩), (q5, ⟨27, 1, [.vs 2 (List.map T_Belt.enc p1)], w5⟩), (q6, ⟨3, 1, [.int .i64 p2], w6⟩)]) hB rfl 2 rfl (Vh (fun _ => .int _ _)) rfl (Wh (ps0' := [(q0, ⟨34, 5, [.agg [.int .i64 x5.Time, .sl q1 w1 0 m1, .sl q2 w2 0 m2, .sl q3 w3 0 m3, .sl q4 w4 0 m4]], w0⟩), (q1, ⟨3, 1, List.map (PV.int .i64) x5.States, w1⟩), (q2, ⟨3, 1, List.map (PV.int .i64) x5.Since, w2⟩), (q3, ⟨4, 1, List.map PV.bool x5.Pulled, w3⟩), (q4, ⟨4, 1, List.map PV.bool p0.Held, w4⟩), (q5, ⟨27, 1, [.vs 2 (List.map T_Belt.enc p1)], w5⟩), (q6, ⟨3, 1, [.int .i64 p2], w6⟩)]) hB rfl 3 rfl (Vh (fun _ => .bool _)) rfl (Wh (ps0' := [(q0, ⟨34, 5, [.agg [.int .i64 x5.Time, .sl q1 w1 0 m1, .sl q2 w2 0 m2, .sl q3 w3 0 m3, .sl q4 w4 0 m4]], w0⟩), (q1, ⟨3, 1, List.map (PV.int .i64) x5.States, w1⟩), (q2, ⟨3, 1, List.map (PV.int .i64) x5.Since, w2⟩), (q3, ⟨4, 1, List.map PV.bool x5.Pulled, w3⟩), (q4, ⟨4, 1, List.map PV.bool x5.Held, w4⟩), (q5, ⟨27, 1, [.vs 2 (List.map T_Belt.enc p1)], w5⟩), (q6, ⟨3, 1, [.int .i64 p2], w6⟩)]) hB rfl 4 rfl (Vh (fun _ => .bool _)) rfl Wl))))) rfl) rfl ?_
  refine Vg ?_
  obtain rfl := Option.some.inj hF
  refine And.intro (.inl rfl) (And.intro (F_belts_stop_len h6 hm1 hm2 hm3 hm4).1 (And.intro (F_belts_stop_len h6 hm1 hm2 hm3 hm4).2.1 (And.intro (F_belts_stop_len h6 hm1 hm2 hm3 hm4).2.2.1 (And.intro (F_belts_stop_len h6 hm1 hm2 hm3 hm4).2.2.2.1 ?_))))
  exact Vq trivial
 ·rintro _ _ _ _ ⟨he, hl1, hl2, hl3, hl4, hw⟩
  refine ⟨_, _, _, hw, ?_⟩
  exact Ze he [] trivial ((lt_tup trivial)) ⟨rfl, (List.append_nil _).symm⟩

theorem F_belts_Stop_1_len {p0 : T_Line} {p1 : List T_Belt} {p2 : Int} {r : T_Line} (hF : F_belts_Stop_1 p0 p1 p2 = some r) {m1 : Nat} (hm1 : m1 = (p0.States).length) {m2 : Nat} (hm2 : m2 = (p0.Since).length) {m3 : Nat} (hm3 : m3 = (p0.Pulled).length) {m4 : Nat} (hm4 : m4 = (p0.Held).length) : m1 = (r.States).length ∧ m2 = (r.Since).length ∧ m3 = (r.Pulled).length ∧ m4 = (r.Held).length ∧ True := by
  have h : LP (F_belts_Stop_1 p0 p1 p2) (fun r => m1 = (r.States).length ∧ m2 = (r.Since).length ∧ m3 = (r.Pulled).length ∧ m4 = (r.Held).length ∧ True) := by
    unfold F_belts_Stop_1
    exact (Wj fun x5 h6 => Wi ⟨(F_belts_stop_len h6 hm1 hm2 hm3 hm4).1, (F_belts_stop_len h6 hm1 hm2 hm3 hm4).2.1, (F_belts_stop_len h6 hm1 hm2 hm3 hm4).2.2.1, (F_belts_stop_len h6 hm1 hm2 hm3 hm4).2.2.2.1, trivial⟩)
  exact h r hF

theorem F_belts_Stop_1_ok {p0 : T_Line} {p1 : List T_Belt} {p2 : Int} {r : T_Line} (hF : F_belts_Stop_1 p0 p1 p2 = some r) {low : List AObj} {q0 q1 q2 q3 q4 q5 q6 w0 w1 w2 w3 w4 w5 w6 : Nat} (hnd : [q0, q1, q2, q3, q4, q5, q6].Nodup) {m1 : Nat} (hm1 : m1 = (p0.States).length) {m2 : Nat} (hm2 : m2 = (p0.Since).length) {m3 : Nat} (hm3 : m3 = (p0.Pulled).length) {m4 : Nat} (hm4 : m4 = (p0.Held).length) (hq0 : low[q0]? = some ⟨34, 5, [.agg [.int .i64 p0.Time, .sl q1 w1 0 m1, .sl q2 w2 0 m2, .sl q3 w3 0 m3, .sl q4 w4 0 m4]], w0⟩) (hq1 : low[q1]? = some ⟨3, 1, List.map (PV.int .i64) p0.States, w1⟩) (hq2 : low[q2]? = some ⟨3, 1, List.map (PV.int .i64) p0.Since, w2⟩) (hq3 : low[q3]? = some ⟨4, 1, List.map PV.bool p0.Pulled, w3⟩) (hq4 : low[q4]? = some ⟨4, 1, List.map PV.bool p0.Held, w4⟩) (hq5 : low[q5]? = some ⟨27, 1, [.vs 2 (List.map T_Belt.enc p1)], w5⟩) (hq6 : low[q6]? = some ⟨3, 1, [.int .i64 p2], w6⟩) {n : Nat} (hn : low.length = n) :
    Yv Try.prog 51 [.ptr q0 w0 0 0, .ptr q5 w5 0 0, .ptr q6 w6 0 0] low fun x low' => x = .tup [] ∧ low' = setL low [(q0, ⟨34, 5, [.agg [.int .i64 r.Time, .sl q1 w1 0 m1, .sl q2 w2 0 m2, .sl q3 w3 0 m3, .sl q4 w4 0 m4]], w0⟩), (q1, ⟨3, 1, List.map (PV.int .i64) r.States, w1⟩), (q2, ⟨3, 1, List.map (PV.int .i64) r.Since, w2⟩), (q3, ⟨4, 1, List.map PV.bool r.Pulled, w3⟩), (q4, ⟨4, 1, List.map PV.bool r.Held, w4⟩), (q5, ⟨27, 1, [.vs 2 (List.map T_Belt.enc p1)], w5⟩), (q6, ⟨3, 1, [.int .i64 p2], w6⟩)] ++ [] := by
  obtain ⟨h1, h2⟩ := Wk (ps := [(q0, ⟨34, 5, [.agg [.int .i64 p0.Time, .sl q1 w1 0 m1, .sl q2 w2 0 m2, .sl q3 w3 0 m3, .sl q4 w4 0 m4]], w0⟩), (q1, ⟨3, 1, List.map (PV.int .i64) p0.States, w1⟩), (q2, ⟨3, 1, List.map (PV.int .i64) p0.Since, w2⟩), (q3, ⟨4, 1, List.map PV.bool p0.Pulled, w3⟩), (q4, ⟨4, 1, List.map PV.bool p0.Held, w4⟩), (q5, ⟨27, 1, [.vs 2 (List.map T_Belt.enc p1)], w5⟩), (q6, ⟨3, 1, [.int .i64 p2], w6⟩)]) hnd (Zx hq0 (Zx hq1 (Zx hq2 (Zx hq3 (Zx hq4 (Zx hq5 (Zx hq6 bor0)))))))
  exact Zz h1 (F_belts_Stop_1_ok0 hF h2 hm1 hm2 hm3 hm4 hn)

theorem F_belts_done__belts_Stop_1_ok0 {p0 : T_Line} {pc10 : List T_Belt} {pc11 : Int} {r : T_Line} (hF : F_belts_done__belts_Stop_1 p0 pc10 pc11 = some r) {low0 : List AObj} {q0 q1 w0 w1 : Nat} (hB : Bor low0 [q0, q1]) {n : Nat} (hn : low0.length = n) :
    Yv Try.prog 31 [.agg [.int .i64 p0.Time, .vs 1 (List.map (PV.int .i64) p0.States), .vs 1 (List.map (PV.int .i64) p0.Since), .vs 1 (List.map PV.bool p0.Pulled), .vs 1 (List.map PV.bool p0.Held)], .fn 51 [] [.ptr q0 w0 0 0, .ptr q1 w1 0 0]] (setL low0 [(q0, ⟨27, 1, [.vs 2 (List.map T_Belt.enc pc10)], w0⟩), (q1, ⟨3, 1, [.int .i64 pc11], w1⟩)]) fun x low' => x = .agg [.int .i64 r.Time, .sl (n + 0) 0 0 (r.States).length, .sl (n + 1) 0 0 (r.Since).length, .sl (n + 2) 0 0 (r.Pulled).length, .vs 1 (List.map PV.bool r.Held)] ∧ low' = setL low0 [(q0, ⟨27, 1, [.vs 2 (List.map T_Belt.enc pc10)], w0⟩), (q1, ⟨3, 1, [.int .i64 pc11], w1⟩)] ++ [⟨3, 1, List.map (PV.int .i64) r.States, 0⟩, ⟨3, 1, List.map (PV.int .i64) r.Since, 0⟩, ⟨4, 1, List.map PV.bool r.Pulled, 0⟩] := by
 refine Xc (nt := 24) (rs := [.cell 4 34]) Try.func31 rfl rfl (Nat.le_of_ble_eq_true rfl) rfl ?_
 have hq0 : q0 < n := hB.ltN hn 0 rfl
 have hq1 : q1 < n := hB.ltN hn 1 rfl
 refine Vw (Q' := FnE (fun E' lw lc => Ya E' lw lc [(4, .ptr (n + 3) 0 0 0)] (setL low0 [(q0, ⟨27, 1, [.vs 2 (List.map T_Belt.enc pc10)], w0⟩), (q1, ⟨3, 1, [.int .i64 pc11], w1⟩)]) [⟨3, 1, List.map (PV.int .i64) r.States, 0⟩, ⟨3, 1, List.map (PV.int .i64) r.Since, 0⟩, ⟨4, 1, List.map PV.bool r.Pulled, 0⟩, ⟨34, 5, [.agg [.int .i64 r.Time, .sl (n + 0) 0 0 (r.States).length, .sl (n + 1) 0 0 (r.Since).length, .sl (n + 2) 0 0 (r.Pulled).length, .vs 1 (List.map PV.bool r.Held)]], 0⟩])) ?_ ?_
 ·unfold F_belts_done__belts_Stop_1 at hF
  refine Vi ?_
  refine Ve ?_
  refine Vk (Yw (Vr hn) rfl (v := .agg [.int .i64 p0.Time, .vs 1 (List.map (PV.int .i64) p0.States), .vs 1 (List.map (PV.int .i64) p0.Since), .vs 1 (List.map PV.bool p0.Pulled), .vs 1 (List.map PV.bool p0.Held)]) rfl rfl (Nat.succ_pos _) rfl rfl) rfl ?_
  refine Vk (Xe (Vr hn) rfl tz_34 rfl rfl (Nat.succ_pos _) rfl) rfl ?_
  refine Vg ?_
  refine Vi ?_
  obtain ⟨x1, h2, hF⟩ := Ys hF
  obtain ⟨x3, h4, hF⟩ := Ys hF
  obtain ⟨x5, h6, hF⟩ := Ys hF
  obtain ⟨x7, h8, hF⟩ := Ys hF
  refine Ye (Yu 3 1 (Nat.succ_pos _)) ?_
  refine Ye (Yu 3 1 (Nat.succ_pos _)) ?_
  refine Ye (Yu 4 1 (Nat.succ_pos _)) ?_
  refine Ye (Yu 4 1 (Nat.succ_pos _)) ?_
  refine Ye (Yu 34 5 (Nat.succ_pos _)) ?_
  refine vwp_drawnX [[], [0], [], [2], [2, 3], [], [5], [2, 3, 4, 5, 6], [], [8], [2, 3, 4, 5, 6, 7, 8, 9], [], [11], [2, 3, 4, 5, 6, 7, 8, 9, 10, 11, 12], [0, 1, 2, 3, 4, 5, 6, 7, 8, 9, 10, 11, 12, 13], [], [0, 1, 2, 3, 4, 5, 6, 7, 8, 9, 10, 11, 12, 13, 14, 15]] [false, false, false, false, true, false, false, true, false, false, true, false, false, true, false, true, true] [([], (setL low0 [(q0, ⟨27, 1, [.vs 2 (List.map T_Belt.enc pc10)], w0⟩), (q1, ⟨3, 1, [.int .i64 pc11], w1⟩)]), [⟨34, 5, [.agg [.int .i64 p0.Time, .vs 1 (List.map (PV.int .i64) p0.States), .vs 1 (List.map (PV.int .i64) p0.Since), .vs 1 (List.map PV.bool p0.Pulled), .vs 1 (List.map PV.bool p0.Held)]], 0⟩, ⟨34, 5, [.agg [.int .i64 0, .nils, .nils, .nils, .nils]], 0⟩, ⟨3, 1, [], 0⟩, ⟨3, 1, [], 0⟩, ⟨4, 1, [], 0⟩, ⟨4, 1, [], 0⟩, ⟨34, 5, [], 0⟩]), ([4], (setL low0 [(q0, ⟨27, 1, [.vs 2 (List.map T_Belt.enc pc10)], w0⟩), (q1, ⟨3, 1, [.int .i64 pc11], w1⟩)]), [⟨34, 5, [.agg [.int .i64 p0.Time, .vs 1 (List.map (PV.int .i64) p0.States), .vs 1 (List.map (PV.int .i64) p0.Since), .vs 1 (List.map PV.bool p0.Pulled), .vs 1 (List.map PV.bool p0.Held)]], 0⟩, ⟨34, 5, [.agg [.int .i64 0, .nils, .nils, .nils, .nils]], 0⟩, ⟨3, 1, List.map (PV.int .i64) x1, 1⟩, ⟨3, 1, [], 0⟩, ⟨4, 1, [], 0⟩, ⟨4, 1, [], 0⟩, ⟨34, 5, [], 0⟩]), ([15], (setL low0 [(q0, ⟨27, 1, [.vs 2 (List.map T_Belt.enc pc10)], w0⟩), (q1, ⟨3, 1, [.int .i64 pc11], w1⟩)]), [⟨34, 5, [.agg [.int .i64 p0.Time, .vs 1 (List.map (PV.int .i64) p0.States), .vs 1 (List.map (PV.int .i64) p0.Since), .vs 1 (List.map PV.bool p0.Pulled), .vs 1 (List.map PV.bool p0.Held)]], 0⟩, ⟨34, 5, [.agg [.int .i64 0, .nils, .nils, .nils, .nils]], 0⟩, ⟨3, 1, [], 0⟩, ⟨3, 1, [], 0⟩, ⟨4, 1, [], 0⟩, ⟨4, 1, [], 0⟩, ⟨34, 5, [.agg [.int .i64 0, .nils, .nils, .nils, .nils]], 1⟩]), ([4, 7], (setL low0 [(q0, ⟨27, 1, [.vs 2 (List.map T_Belt.enc pc10)], w0⟩), (q1, ⟨3, 1, [.int .i64 pc11], w1⟩)]), [⟨34, 5, [.agg [.int .i64 p0.Time, .vs 1 (List.map (PV.int .i64) p0.States), .vs 1 (List.map (PV.int .i64) p0.Since), .vs 1 (List.map PV.bool p0.Pulled), .vs 1 (List.map PV.bool p0.Held)]], 0⟩, ⟨34, 5, [.agg [.int .i64 0, .nils, .nils, .nils, .nils]], 0⟩, ⟨3, 1, List.map (PV.int .i64) x1, 1⟩, ⟨3, 1, List.map (PV.int .i64) x3, 1⟩, ⟨4, 1, [], 0⟩, ⟨4, 1, [], 0⟩, ⟨34, 5, [], 0⟩]), ([4, 15], (setL low0 [(q0, ⟨27, 1, [.vs 2 (List.map T_Belt.enc pc10)], w0⟩), (q1, ⟨3, 1, [.int .i64 pc11], w1⟩)]), [⟨34, 5, [.agg [.int .i64 p0.Time, .vs 1 (List.map (PV.int .i64) p0.States), .vs 1 (List.map (PV.int .i64) p0.Since), .vs 1 (List.map PV.bool p0.Pulled), .vs 1 (List.map PV.bool p0.Held)]], 0⟩, ⟨34, 5, [.agg [.int .i64 0, .nils, .nils, .nils, .nils]], 0⟩, ⟨3, 1, List.map (PV.int .i64) x1, 1⟩, ⟨3, 1, [], 0⟩, ⟨4, 1, [], 0⟩, ⟨4, 1, [], 0⟩, ⟨34, 5, [.agg [.int .i64 0, .nils, .nils, .nils, .nils]], 1⟩]), ([4, 7, 10], (setL low0 [(q0, ⟨27, 1, [.vs 2 (List.map T_Belt.enc pc10)], w0⟩), (q1, ⟨3, 1, [.int .i64 pc11], w1⟩)]), [⟨34, 5, [.agg [.int .i64 p0.Time, .vs 1 (List.map (PV.int .i64) p0.States), .vs 1 (List.map (PV.int .i64) p0.Since), .vs 1 (List.map PV.bool p0.Pulled), .vs 1 (List.map PV.bool p0.Held)]], 0⟩, ⟨34, 5, [.agg [.int .i64 0, .nils, .nils, .nils, .nils]], 0⟩, ⟨3, 1, List.map (PV.int .i64) x1, 1⟩, ⟨3, 1, List.map (PV.int .i64) x3, 1⟩, ⟨4, 1, List.map PV.bool x5, 1⟩, ⟨4, 1, [], 0⟩, ⟨34, 5, [], 0⟩]), ([4, 7, 15], (setL low0 [(q0, ⟨27, 1, [.vs 2 (List.map T_Belt.enc pc10)], w0⟩), (q1, ⟨3, 1, [.int .i64 pc11], w1⟩)]), [⟨34, 5, [.agg [.int .i64 p0.Time, .vs 1 (List.map (PV.int .i64) p0.States), .vs 1 (List.map (PV.int .i64) p0.Since), .vs 1 (List.map PV.bool p0.Pulled), .vs 1 (List.map PV.bool p0.Held)]], 0⟩, ⟨34, 5, [.agg [.int .i64 0, .nils, .nils, .nils, .nils]], 0⟩, ⟨3, 1, List.map (PV.int .i64) x1, 1⟩, ⟨3, 1, List.map (PV.int .i64) x3, 1⟩, ⟨4, 1, [], 0⟩, ⟨4, 1, [], 0⟩, ⟨34, 5, [.agg [.int .i64 0, .nils, .nils, .nils, .nils]], 1⟩]), ([4, 7, 10, 13], (setL low0 [(q0, ⟨27, 1, [.vs 2 (List.map T_Belt.enc pc10)], w0⟩), (q1, ⟨3, 1, [.int .i64 pc11], w1⟩)]), [⟨34, 5, [.agg [.int .i64 p0.Time, .vs 1 (List.map (PV.int .i64) p0.States), .vs 1 (List.map (PV.int .i64) p0.Since), .vs 1 (List.map PV.bool p0.Pulled), .vs 1 (List.map PV.bool p0.Held)]], 0⟩, ⟨34, 5, [.agg [.int .i64 0, .nils, .nils, .nils, .nils]], 0⟩, ⟨3, 1, List.map (PV.int .i64) x1, 1⟩, ⟨3, 1, List.map (PV.int .i64) x3, 1⟩, ⟨4, 1, List.map PV.bool x5, 1⟩, ⟨4, 1, List.map PV.bool x7, 1⟩, ⟨34, 5, [], 0⟩]), ([4, 7, 10, 15], (setL low0 [(q0, ⟨27, 1, [.vs 2 (List.map T_Belt.enc pc10)], w0⟩), (q1, ⟨3, 1, [.int .i64 pc11], w1⟩)]), [⟨34, 5, [.agg [.int .i64 p0.Time, .vs 1 (List.map (PV.int .i64) p0.States), .vs 1 (List.map (PV.int .i64) p0.Since), .vs 1 (List.map PV.bool p0.Pulled), .vs 1 (List.map PV.bool p0.Held)]], 0⟩, ⟨34, 5, [.agg [.int .i64 0, .nils, .nils, .nils, .nils]], 0⟩, ⟨3, 1, List.map (PV.int .i64) x1, 1⟩, ⟨3, 1, List.map (PV.int .i64) x3, 1⟩, ⟨4, 1, List.map PV.bool x5, 1⟩, ⟨4, 1, [], 0⟩, ⟨34, 5, [.agg [.int .i64 0, .nils, .nils, .nils, .nils]], 1⟩]), ([4, 7, 10, 13, 15], (setL low0 [(q0, ⟨27, 1, [.vs 2 (List.map T_Belt.enc pc10)], w0⟩), (q1, ⟨3, 1, [.int .i64 pc11], w1⟩)]), [⟨34, 5, [.agg [.int .i64 p0.Time, .vs 1 (List.map (PV.int .i64) p0.States), .vs 1 (List.map (PV.int .i64) p0.Since), .vs 1 (List.map PV.bool p0.Pulled), .vs 1 (List.map PV.bool p0.Held)]], 0⟩, ⟨34, 5, [.agg [.int .i64 0, .nils, .nils, .nils, .nils]], 0⟩, ⟨3, 1, List.map (PV.int .i64) x1, 1⟩, ⟨3, 1, List.map (PV.int .i64) x3, 1⟩, ⟨4, 1, List.map PV.bool x5, 1⟩, ⟨4, 1, List.map PV.bool x7, 1⟩, ⟨34, 5, [.agg [.int .i64 0, .nils, .nils, .nils, .nils]], 1⟩]), ([4, 7, 10, 13, 15, 16], (setL low0 [(q0, ⟨27, 1, [.vs 2 (List.map T_Belt.enc pc10)], w0⟩), (q1, ⟨3, 1, [.int .i64 pc11], w1⟩)]), [⟨34, 5, [.agg [.int .i64 p0.Time, .vs 1 (List.map (PV.int .i64) p0.States), .vs 1 (List.map (PV.int .i64) p0.Since), .vs 1 (List.map PV.bool p0.Pulled), .vs 1 (List.map PV.bool p0.Held)]], 0⟩, ⟨34, 5, [.agg [.int .i64 0, .nils, .nils, .nils, .nils]], 0⟩, ⟨3, 1, List.map (PV.int .i64) x1, 1⟩, ⟨3, 1, List.map (PV.int .i64) x3, 1⟩, ⟨4, 1, List.map PV.bool x5, 1⟩, ⟨4, 1, List.map PV.bool x7, 1⟩, ⟨34, 5, [.agg [.int .i64 p0.Time, .sl (n + 2) 1 0 (x1).length, .sl (n + 3) 1 0 (x3).length, .sl (n + 4) 1 0 (x5).length, .sl (n + 5) 1 0 (x7).length]], 1⟩])] mixed (by kernel_rfl) rfl (lenAllX (Yp Xl (Yp Xl (Yp Xl (Yp Xl (Yp Xl (Yp Xl (Yp Xl (Yp Xl (Yp Xl (Yp Xl (Yp Xl allx0)))))))))))) rfl [4, 7, 10, 13, 15, 16] ((setL low0 [(q0, ⟨27, 1, [.vs 2 (List.map T_Belt.enc pc10)], w0⟩), (q1, ⟨3, 1, [.int .i64 pc11], w1⟩)]), [⟨34, 5, [.agg [.int .i64 p0.Time, .vs 1 (List.map (PV.int .i64) p0.States), .vs 1 (List.map (PV.int .i64) p0.Since), .vs 1 (List.map PV.bool p0.Pulled), .vs 1 (List.map PV.bool p0.Held)]], 0⟩, ⟨34, 5, [.agg [.int .i64 0, .nils, .nils, .nils, .nils]], 0⟩, ⟨3, 1, List.map (PV.int .i64) x1, 1⟩, ⟨3, 1, List.map (PV.int .i64) x3, 1⟩, ⟨4, 1, List.map PV.bool x5, 1⟩, ⟨4, 1, List.map PV.bool x7, 1⟩, ⟨34, 5, [.agg [.int .i64 p0.Time, .sl (n + 2) 1 0 (x1).length, .sl (n + 3) 1 0 (x3).length, .sl (n + 4) 1 0 (x5).length, .sl (n + 5) 1 0 (x7).length]], 1⟩]) rfl rfl ?_
  refine Xw _ rfl rfl (Xs (Xh.ntl (Vc rfl tf_34_0 ts_3 (by decide))) (Xs (Xh.ntl (Vc rfl tf_34_0 ts_3 (by decide))) (Xs (Xh.ntl (Vc rfl tf_34_0 ts_3 (by decide))) (Xs (Xh.ntl (Vc rfl tf_34_0 ts_3 (by decide))) (Xs (Xh.ntl (Vc rfl tf_34_0 ts_3 (by decide))) (Xs (Xh.ntl (Vc rfl tf_34_0 ts_3 (by decide))) (Xs (Xh.ntl (Vc rfl tf_34_0 ts_3 (by decide))) (Xs (Xh.ntl (Vc rfl tf_34_0 ts_3 (by decide))) (Xs (Xh.ntl (Vc rfl tf_34_0 ts_3 (by decide))) (Xs (Xh.ntl (Vc rfl tf_34_0 ts_3 (by decide))) rx0)))))))))) ?_
  refine Xw _ rfl rfl (Xs (Xh.ntl (Vf rfl (Vd (Vr hn) rfl) rfl ta_3 rfl)) (Xs (Xh.ntl (Vf rfl (Vd (Vr hn) rfl) rfl ta_3 rfl)) (Xs (Xh.ntl (Vf rfl (Vd (Vr hn) rfl) rfl ta_3 rfl)) (Xs (Xh.ntl (Vf rfl (Vd (Vr hn) rfl) rfl ta_3 rfl)) (Xs (Xh.ntl (Vf rfl (Vd (Vr hn) rfl) rfl ta_3 rfl)) (Xs (Xh.ntl (Vf rfl (Vd (Vr hn) rfl) rfl ta_3 rfl)) (Xs (Xh.ntl (Vf rfl (Vd (Vr hn) rfl) rfl ta_3 rfl)) (Xs (Xh.ntl (Vf rfl (Vd (Vr hn) rfl) rfl ta_3 rfl)) (Xs (Xh.ntl (Vf rfl (Vd (Vr hn) rfl) rfl ta_3 rfl)) (Xs (Xh.ntl (Vf rfl (Vd (Vr hn) rfl) rfl ta_3 rfl)) rx0)))))))))) ?_
  refine Xw _ rfl rfl (Xs (Xh.ntl (Vc rfl tf_34_1 ts_22 (by decide))) (Xs (Xh.ntl (Vc rfl tf_34_1 ts_22 (by decide))) rx0)) ?_
  refine Xw _ rfl rfl (Xs (Xh.ntl (Vf rfl (Vd (Vr hn) rfl) rfl ta_22 rfl)) (Xs (Xh.ntl (Vf rfl (Vd (Vr hn) rfl) rfl ta_22 rfl)) rx0)) ?_
  refine Zd _ rfl rfl (Zs 1 rfl (Vt (f := 7) (k := 2) (m := 1) (os := [⟨3, 1, List.map (PV.int .i64) x1, 0⟩]) (os' := [⟨3, 1, List.map (PV.int .i64) x1, 1⟩]) (v := .sl (n + 7) 0 0 (x1).length) (Vr hn) rfl rfl ⟨⟨_, rfl, rfl⟩, trivial⟩ (Xf (r := .sl (n + 7) 0 0 (x1).length) (os := [⟨3, 1, List.map (PV.int .i64) x1, 0⟩]) rfl Try.call54 (F_slices_Clone___int_int__ok h2 _ (Xn (Vr hn) rfl))) (Yf 0 rfl rfl rfl rfl) ⟨.same _ _ _ (Vh (fun _ => .int _ _)), trivial⟩ rfl) (Zs 4 rfl (Vt (f := 7) (k := 2) (m := 1) (os := [⟨3, 1, List.map (PV.int .i64) x1, 0⟩]) (os' := [⟨3, 1, List.map (PV.int .i64) x1, 1⟩]) (v := .sl (n + 7) 0 0 (x1).length) (Vr hn) rfl rfl ⟨⟨_, rfl, rfl⟩, trivial⟩ (Xf (r := .sl (n + 7) 0 0 (x1).length) (os := [⟨3, 1, List.map (PV.int .i64) x1, 0⟩]) rfl Try.call54 (F_slices_Clone___int_int__ok h2 _ (Xn (Vr hn) rfl))) (Yf 0 rfl rfl rfl rfl) ⟨.same _ _ _ (Vh (fun _ => .int _ _)), trivial⟩ rfl) ex0)) ?_
  refine Xw _ rfl rfl (Xs (Xh.ntl (Vc rfl tf_34_2 ts_22 (by decide))) (Xs (Xh.ntl (Vc rfl tf_34_2 ts_22 (by decide))) (Xs (Xh.ntl (Vc rfl tf_34_2 ts_22 (by decide))) (Xs (Xh.ntl (Vc rfl tf_34_2 ts_22 (by decide))) rx0)))) ?_
  refine Xw _ rfl rfl (Xs (Xh.ntl (Vf rfl (Vd (Vr hn) rfl) rfl ta_22 rfl)) (Xs (Xh.ntl (Vf rfl (Vd (Vr hn) rfl) rfl ta_22 rfl)) (Xs (Xh.ntl (Vf rfl (Vd (Vr hn) rfl) rfl ta_22 rfl)) (Xs (Xh.ntl (Vf rfl (Vd (Vr hn) rfl) rfl ta_22 rfl)) rx0)))) ?_
  refine Zd _ rfl rfl (Zs 3 rfl (Vt (f := 7) (k := 3) (m := 1) (os := [⟨3, 1, List.map (PV.int .i64) x3, 0⟩]) (os' := [⟨3, 1, List.map (PV.int .i64) x3, 1⟩]) (v := .sl (n + 7) 0 0 (x3).length) (Vr hn) rfl rfl ⟨⟨_, rfl, rfl⟩, trivial⟩ (Xf (r := .sl (n + 7) 0 0 (x3).length) (os := [⟨3, 1, List.map (PV.int .i64) x3, 0⟩]) rfl Try.call54 (F_slices_Clone___int_int__ok h4 _ (Xn (Vr hn) rfl))) (Yf 0 rfl rfl rfl rfl) ⟨.same _ _ _ (Vh (fun _ => .int _ _)), trivial⟩ rfl) (Zs 6 rfl (Vt (f := 7) (k := 3) (m := 1) (os := [⟨3, 1, List.map (PV.int .i64) x3, 0⟩]) (os' := [⟨3, 1, List.map (PV.int .i64) x3, 1⟩]) (v := .sl (n + 7) 0 0 (x3).length) (Vr hn) rfl rfl ⟨⟨_, rfl, rfl⟩, trivial⟩ (Xf (r := .sl (n + 7) 0 0 (x3).length) (os := [⟨3, 1, List.map (PV.int .i64) x3, 0⟩]) rfl Try.call54 (F_slices_Clone___int_int__ok h4 _ (Xn (Vr hn) rfl))) (Yf 0 rfl rfl rfl rfl) ⟨.same _ _ _ (Vh (fun _ => .int _ _)), trivial⟩ rfl) ex0)) ?_
  refine Xw _ rfl rfl (Xs (Xh.ntl (Vc rfl tf_34_3 ts_32 (by decide))) (Xs (Xh.ntl (Vc rfl tf_34_3 ts_32 (by decide))) (Xs (Xh.ntl (Vc rfl tf_34_3 ts_32 (by decide))) (Xs (Xh.ntl (Vc rfl tf_34_3 ts_32 (by decide))) (Xs (Xh.ntl (Vc rfl tf_34_3 ts_32 (by decide))) (Xs (Xh.ntl (Vc rfl tf_34_3 ts_32 (by decide))) rx0)))))) ?_
  refine Xw _ rfl rfl (Xs (Xh.ntl (Vf rfl (Vd (Vr hn) rfl) rfl ta_32 rfl)) (Xs (Xh.ntl (Vf rfl (Vd (Vr hn) rfl) rfl ta_32 rfl)) (Xs (Xh.ntl (Vf rfl (Vd (Vr hn) rfl) rfl ta_32 rfl)) (Xs (Xh.ntl (Vf rfl (Vd (Vr hn) rfl) rfl ta_32 rfl)) (Xs (Xh.ntl (Vf rfl (Vd (Vr hn) rfl) rfl ta_32 rfl)) (Xs (Xh.ntl (Vf rfl (Vd (Vr hn) rfl) rfl ta_32 rfl)) rx0)))))) ?_
  refine Zd _ rfl rfl (Zs 5 rfl (Vt (f := 7) (k := 4) (m := 1) (os := [⟨4, 1, List.map PV.bool x5, 0⟩]) (os' := [⟨4, 1, List.map PV.bool x5, 1⟩]) (v := .sl (n + 7) 0 0 (x5).length) (Vr hn) rfl rfl ⟨⟨_, rfl, rfl⟩, trivial⟩ (Xf (r := .sl (n + 7) 0 0 (x5).length) (os := [⟨4, 1, List.map PV.bool x5, 0⟩]) rfl Try.call55 (F_slices_Clone___bool_bool__ok h6 _ (Xn (Vr hn) rfl))) (Yf 0 rfl rfl rfl rfl) ⟨.same _ _ _ (Vh (fun _ => .bool _)), trivial⟩ rfl) (Zs 8 rfl (Vt (f := 7) (k := 4) (m := 1) (os := [⟨4, 1, List.map PV.bool x5, 0⟩]) (os' := [⟨4, 1, List.map PV.bool x5, 1⟩]) (v := .sl (n + 7) 0 0 (x5).length) (Vr hn) rfl rfl ⟨⟨_, rfl, rfl⟩, trivial⟩ (Xf (r := .sl (n + 7) 0 0 (x5).length) (os := [⟨4, 1, List.map PV.bool x5, 0⟩]) rfl Try.call55 (F_slices_Clone___bool_bool__ok h6 _ (Xn (Vr hn) rfl))) (Yf 0 rfl rfl rfl rfl) ⟨.same _ _ _ (Vh (fun _ => .bool _)), trivial⟩ rfl) ex0)) ?_
  refine Xw _ rfl rfl (Xs (Xh.ntl (Vc rfl tf_34_4 ts_32 (by decide))) (Xs (Xh.ntl (Vc rfl tf_34_4 ts_32 (by decide))) (Xs (Xh.ntl (Vc rfl tf_34_4 ts_32 (by decide))) (Xs (Xh.ntl (Vc rfl tf_34_4 ts_32 (by decide))) (Xs (Xh.ntl (Vc rfl tf_34_4 ts_32 (by decide))) (Xs (Xh.ntl (Vc rfl tf_34_4 ts_32 (by decide))) (Xs (Xh.ntl (Vc rfl tf_34_4 ts_32 (by decide))) (Xs (Xh.ntl (Vc rfl tf_34_4 ts_32 (by decide))) rx0)))))))) ?_
  refine Xw _ rfl rfl (Xs (Xh.ntl (Vf rfl (Vd (Vr hn) rfl) rfl ta_32 rfl)) (Xs (Xh.ntl (Vf rfl (Vd (Vr hn) rfl) rfl ta_32 rfl)) (Xs (Xh.ntl (Vf rfl (Vd (Vr hn) rfl) rfl ta_32 rfl)) (Xs (Xh.ntl (Vf rfl (Vd (Vr hn) rfl) rfl ta_32 rfl)) (Xs (Xh.ntl (Vf rfl (Vd (Vr hn) rfl) rfl ta_32 rfl)) (Xs (Xh.ntl (Vf rfl (Vd (Vr hn) rfl) rfl ta_32 rfl)) (Xs (Xh.ntl (Vf rfl (Vd (Vr hn) rfl) rfl ta_32 rfl)) (Xs (Xh.ntl (Vf rfl (Vd (Vr hn) rfl) rfl ta_32 rfl)) rx0)))))))) ?_
  refine Zd _ rfl rfl (Zs 7 rfl (Vt (f := 7) (k := 5) (m := 1) (os := [⟨4, 1, List.map PV.bool x7, 0⟩]) (os' := [⟨4, 1, List.map PV.bool x7, 1⟩]) (v := .sl (n + 7) 0 0 (x7).length) (Vr hn) rfl rfl ⟨⟨_, rfl, rfl⟩, trivial⟩ (Xf (r := .sl (n + 7) 0 0 (x7).length) (os := [⟨4, 1, List.map PV.bool x7, 0⟩]) rfl Try.call55 (F_slices_Clone___bool_bool__ok h8 _ (Xn (Vr hn) rfl))) (Yf 0 rfl rfl rfl rfl) ⟨.same _ _ _ (Vh (fun _ => .bool _)), trivial⟩ rfl) (Zs 9 rfl (Vt (f := 7) (k := 5) (m := 1) (os := [⟨4, 1, List.map PV.bool x7, 0⟩]) (os' := [⟨4, 1, List.map PV.bool x7, 1⟩]) (v := .sl (n + 7) 0 0 (x7).length) (Vr hn) rfl rfl ⟨⟨_, rfl, rfl⟩, trivial⟩ (Xf (r := .sl (n + 7) 0 0 (x7).length) (os := [⟨4, 1, List.map PV.bool x7, 0⟩]) rfl Try.call55 (F_slices_Clone___bool_bool__ok h8 _ (Xn (Vr hn) rfl))) (Yf 0 rfl rfl rfl rfl) ⟨.same _ _ _ (Vh (fun _ => .bool _)), trivial⟩ rfl) ex0)) ?_
  refine Xw _ rfl rfl (Xs (Xh.ntl (Wd (vs := [(0, .int .i64 p0.Time), (1, .sl (n + 2) 1 0 (x1).length), (2, .sl (n + 3) 1 0 (x3).length), (3, .sl (n + 4) 1 0 (x5).length), (4, .sl (n + 5) 1 0 (x7).length)]) (ds := [.int .i64 p0.Time, .sl (n + 2) 1 0 (x1).length, .sl (n + 3) 1 0 (x3).length, .sl (n + 4) 1 0 (x5).length, .sl (n + 5) 1 0 (x7).length]) tz_34 rfl rfl tp_34 ⟨rfl, rfl, rfl, rfl, rfl, rfl, rfl, rfl, rfl, rfl, trivial⟩ (nt_all2 rfl) rfl)) (Xs (Xh.ntl (Wd (vs := [(0, .int .i64 p0.Time), (1, .sl (n + 2) 1 0 (x1).length), (2, .sl (n + 3) 1 0 (x3).length), (3, .sl (n + 4) 1 0 (x5).length), (4, .sl (n + 5) 1 0 (x7).length)]) (ds := [.int .i64 p0.Time, .sl (n + 2) 1 0 (x1).length, .sl (n + 3) 1 0 (x3).length, .sl (n + 4) 1 0 (x5).length, .sl (n + 5) 1 0 (x7).length]) tz_34 rfl rfl tp_34 ⟨rfl, rfl, rfl, rfl, rfl, rfl, rfl, rfl, rfl, rfl, trivial⟩ (nt_all2 rfl) rfl)) rx0)) ?_
  refine Zd _ rfl rfl (Zs 2 rfl (Vt (f := 7) (k := 6) (m := 1) (os := [⟨34, 5, [.agg [.int .i64 0, .nils, .nils, .nils, .nils]], 0⟩]) (os' := [⟨34, 5, [.agg [.int .i64 0, .nils, .nils, .nils, .nils]], 1⟩]) (v := .ptr (n + 7) 0 0 0) (Vr hn) rfl rfl ⟨⟨_, rfl, rfl⟩, trivial⟩ (Xe (Vr hn) rfl tz_34 rfl rfl (Nat.succ_pos _) rfl) (Wa 0 rfl rfl rfl rfl) ⟨.same _ _ _ (Xt ⟨(Xx ⟨.int _ _, .nils, .nils, .nils, .nils, trivial⟩), trivial⟩), trivial⟩ rfl) (Zs 4 rfl (Vt (f := 7) (k := 6) (m := 1) (os := [⟨34, 5, [.agg [.int .i64 0, .nils, .nils, .nils, .nils]], 0⟩]) (os' := [⟨34, 5, [.agg [.int .i64 0, .nils, .nils, .nils, .nils]], 1⟩]) (v := .ptr (n + 7) 0 0 0) (Vr hn) rfl rfl ⟨⟨_, rfl, rfl⟩, trivial⟩ (Xe (Vr hn) rfl tz_34 rfl rfl (Nat.succ_pos _) rfl) (Wa 0 rfl rfl rfl rfl) ⟨.same _ _ _ (Xt ⟨(Xx ⟨.int _ _, .nils, .nils, .nils, .nils, trivial⟩), trivial⟩), trivial⟩ rfl) (Zs 6 rfl (Vt (f := 7) (k := 6) (m := 1) (os := [⟨34, 5, [.agg [.int .i64 0, .nils, .nils, .nils, .nils]], 0⟩]) (os' := [⟨34, 5, [.agg [.int .i64 0, .nils, .nils, .nils, .nils]], 1⟩]) (v := .ptr (n + 7) 0 0 0) (Vr hn) rfl rfl ⟨⟨_, rfl, rfl⟩, trivial⟩ (Xe (Vr hn) rfl tz_34 rfl rfl (Nat.succ_pos _) rfl) (Wa 0 rfl rfl rfl rfl) ⟨.same _ _ _ (Xt ⟨(Xx ⟨.int _ _, .nils, .nils, .nils, .nils, trivial⟩), trivial⟩), trivial⟩ rfl) (Zs 8 rfl (Vt (f := 7) (k := 6) (m := 1) (os := [⟨34, 5, [.agg [.int .i64 0, .nils, .nils, .nils, .nils]], 0⟩]) (os' := [⟨34, 5, [.agg [.int .i64 0, .nils, .nils, .nils, .nils]], 1⟩]) (v := .ptr (n + 7) 0 0 0) (Vr hn) rfl rfl ⟨⟨_, rfl, rfl⟩, trivial⟩ (Xe (Vr hn) rfl tz_34 rfl rfl (Nat.succ_pos _) rfl) (Wa 0 rfl rfl rfl rfl) ⟨.same _ _ _ (Xt ⟨(Xx ⟨.int _ _, .nils, .nils, .nils, .nils, trivial⟩), trivial⟩), trivial⟩ rfl) (Zs 9 rfl (Vt (f := 7) (k := 6) (m := 1) (os := [⟨34, 5, [.agg [.int .i64 0, .nils, .nils, .nils, .nils]], 0⟩]) (os' := [⟨34, 5, [.agg [.int .i64 0, .nils, .nils, .nils, .nils]], 1⟩]) (v := .ptr (n + 7) 0 0 0) (Vr hn) rfl rfl ⟨⟨_, rfl, rfl⟩, trivial⟩ (Xe (Vr hn) rfl tz_34 rfl rfl (Nat.succ_pos _) rfl) (Wa 0 rfl rfl rfl rfl) ⟨.same _ _ _ (Xt ⟨(Xx ⟨.int _ _, .nils, .nils, .nils, .nils, trivial⟩), trivial⟩), trivial⟩ rfl) ex0))))) ?_
  refine Zd _ rfl rfl (Zs 10 rfl (Vx (p := .agg [.int .i64 p0.Time, .sl (n + 2) 1 0 (x1).length, .sl (n + 3) 1 0 (x3).length, .sl (n + 4) 1 0 (x5).length, .sl (n + 5) 1 0 (x7).length]) (e' := .agg [.int .i64 p0.Time, .sl (n + 2) 1 0 (x1).length, .sl (n + 3) 1 0 (x3).length, .sl (n + 4) 1 0 (x5).length, .sl (n + 5) 1 0 (x7).length]) rfl (Vd (Vr hn) rfl) rfl rfl ts_34 rfl (Yc rfl) rfl (Nat.le_of_ble_eq_true rfl) rfl (Xr (Vr hn) rfl)) ex0) ?_
  refine dopx_nil ?_
  refine Vi ?_
  refine Ve ?_
  obtain ⟨x9, h10, hF⟩ := Ys hF
  refine Va (rd_mvF rfl) rfl ?_
  refine Vk (Wc (ps := [((n + 6), ⟨34, 5, [.agg [.int .i64 x9.Time, .sl (n + 2) 1 0 (x1).length, .sl (n + 3) 1 0 (x3).length, .sl (n + 4) 1 0 (x5).length, .sl (n + 5) 1 0 (x7).length]], 1⟩), ((n + 2), ⟨3, 1, List.map (PV.int .i64) x9.States, 1⟩), ((n + 3), ⟨3, 1, List.map (PV.int .i64) x9.Since, 1⟩), ((n + 4), ⟨4, 1, List.map PV.bool x9.Pulled, 1⟩), ((n + 5), ⟨4, 1, List.map PV.bool x9.Held, 1⟩), (q0, ⟨27, 1, [.vs 2 (List.map T_Belt.enc pc10)], w0⟩), (q1, ⟨3, 1, [.int .i64 pc11], w1⟩)]) (r := .tup []) (os := []) (low1 := (setL low0 [(q0, ⟨27, 1, [.vs 2 (List.map T_Belt.enc pc10)], w0⟩), (q1, ⟨3, 1, [.int .i64 pc11], w1⟩)])) (loc1 := [⟨34, 5, [.agg [.int .i64 p0.Time, .vs 1 (List.map (PV.int .i64) p0.States), .vs 1 (List.map (PV.int .i64) p0.Since), .vs 1 (List.map PV.bool p0.Pulled), .vs 1 (List.map PV.bool p0.Held)]], 0⟩, ⟨34, 5, [.agg [.int .i64 0, .nils, .nils, .nils, .nils]], 0⟩, ⟨3, 1, List.map (PV.int .i64) x9.States, 1⟩, ⟨3, 1, List.map (PV.int .i64) x9.Since, 1⟩, ⟨4, 1, List.map PV.bool x9.Pulled, 1⟩, ⟨4, 1, List.map PV.bool x9.Held, 1⟩, ⟨34, 5, [.agg [.int .i64 x9.Time, .sl (n + 2) 1 0 (x1).length, .sl (n + 3) 1 0 (x3).length, .sl (n + 4) 1 0 (x5).length, .sl (n + 5) 1 0 (x7).length]], 1⟩]) (loc2 := [⟨34, 5, [.agg [.int .i64 p0.Time, .vs 1 (List.map (PV.int .i64) p0.States), .vs 1 (List.map (PV.int .i64) p0.Since), .vs 1 (List.map PV.bool p0.Pulled), .vs 1 (List.map PV.bool p0.Held)]], 0⟩, ⟨34, 5, [.agg [.int .i64 0, .nils, .nils, .nils, .nils]], 0⟩, ⟨3, 1, List.map (PV.int .i64) x9.States, 1⟩, ⟨3, 1, List.map (PV.int .i64) x9.Since, 1⟩, ⟨4, 1, List.map PV.bool x9.Pulled, 1⟩, ⟨4, 1, List.map PV.bool x9.Held, 1⟩, ⟨34, 5, [.agg [.int .i64 x9.Time, .sl (n + 2) 1 0 (x1).length, .sl (n + 3) 1 0 (x3).length, .sl (n + 4) 1 0 (x5).length, .sl (n + 5) 1 0 (x7).length]], 1⟩]) rfl Try.call51 (F_belts_Stop_1_ok h10 (nd1 (Zq (Yt rfl) (Zq (Yt rfl) (Zq (Yt rfl) (Zq (Yt rfl) (Zq (Yr hq0) (Zq (Yr hq1) na0)))))) (nd1 (Zq (Yt rfl) (Zq (Yt rfl) (Zq (Yt rfl) (Zq (Yr hq0) (Zq (Yr hq1) na0))))) (nd1 (Zq (Yt rfl) (Zq (Yt rfl) (Zq (Yr hq0) (Zq (Yr hq1) na0)))) (nd1 (Zq (Yt rfl) (Zq (Yr hq0) (Zq (Yr hq1) na0))) (nd1 (Zq (Yr hq0) (Zq (Yr hq1) na0)) (nd1 (Zq (hB.ne 0 1 rfl rfl rfl) na0) (nd1 na0 nd0))))))) (rfl : (x1).length = _) (rfl : (x3).length = _) (rfl : (x5).length = _) (rfl : (x7).length = _) (Zw (Vr hn) rfl) (Zw (Vr hn) rfl) (Zw (Vr hn) rfl) (Zw (Vr hn) rfl) (Zw (Vr hn) rfl) (get_B hB rfl 0 rfl) (get_B hB rfl 1 rfl) (Xn (Vr hn) rfl)) (Yx (loc2 := [⟨34, 5, [.agg [.int .i64 p0.Time, .vs 1 (List.map (PV.int .i64) p0.States), .vs 1 (List.map (PV.int .i64) p0.Since), .vs 1 (List.map PV.bool p0.Pulled), .vs 1 (List.map PV.bool p0.Held)]], 0⟩, ⟨34, 5, [.agg [.int .i64 0, .nils, .nils, .nils, .nils]], 0⟩, ⟨3, 1, List.map (PV.int .i64) x1, 1⟩, ⟨3, 1, List.map (PV.int .i64) x3, 1⟩, ⟨4, 1, List.map PV.bool x5, 1⟩, ⟨4, 1, List.map PV.bool x7, 1⟩, ⟨34, 5, [.agg [.int .i64 x9.Time, .sl (n + 2) 1 0 (x1).length, .sl (n + 3) 1 0 (x3).length, .sl (n + 4) 1 0 (x5).length, .sl (n + 5) 1 0 (x7).length]], 1⟩]) (Vr hn) 6 rfl (Yx (loc2 := [⟨34, 5, [.agg [.int .i64 p0.Time, .vs 1 (List.map (PV.int .i64) p0.States), .vs 1 (List.map (PV.int .i64) p0.Since), .vs 1 (List.map PV.bool p0.Pulled), .vs 1 (List.map PV.bool p0.Held)]], 0⟩, ⟨34, 5, [.agg [.int .i64 0, .nils, .nils, .nils, .nils]], 0⟩, ⟨3, 1, List.map (PV.int .i64) x9.States, 1⟩, ⟨3, 1, List.map (PV.int .i64) x3, 1⟩, ⟨4, 1, List.map PV.bool x5, 1⟩, ⟨4, 1, List.map PV.bool x7, 1⟩, ⟨34, 5, [.agg [.int .i64 x9.Time, .sl (n + 2) 1 0 (x1).length, .sl (n + 3) 1 0 (x3).length, .sl (n + 4) 1 0 (x5).length, .sl (n + 5) 1 0 (x7).length]], 1⟩]) (Vr hn) 2 rfl (Yx (loc2 := [⟨34, 5, [.agg [.int .i64 p0.Time, .vs 1 (List.map (PV.int .i64) p0.States), .vs 1 (List.map (PV.int .i64) p0.Since), .vs 1 (List.map PV.bool p0.Pulled), .vs 1 (List.map PV.bool p0.Held)]], 0⟩, ⟨34, 5, [.agg [.int .i64 0, .nils, .nils, .nils, .nils]], 0⟩, ⟨3, 1, List.map (PV.int .i64) x9.States, 1⟩, ⟨3, 1, List.map (PV.int .i64) x9.Since, 1⟩, ⟨4, 1, List.map PV.bool x5, 1⟩, ⟨4, 1, List.map PV.bool x7, 1⟩, ⟨34, 5, [.agg [.int .i64 x9.Time, .sl (n + 2) 1 0 (x1).length, .sl (n + 3) 1 0 (x3).length, .sl (n + 4) 1 0 (x5).length, .sl (n + 5) 1 0 (x7).length]], 1⟩]) (Vr hn) 3 rfl (Yx (loc2 := [⟨34, 5, [.agg [.int .i64 p0.Time, .vs 1 (List.map (PV.int .i64) p0.States), .vs 1 (List.map (PV.int .i64) p0.Since), .vs 1 (List.map PV.bool p0.Pulled), .vs 1 (List.map PV.bool p0.Held)]], 0⟩, ⟨34, 5, [.agg [.int .i64 0, .nils, .nils, .nils, .nils]], 0⟩, ⟨3, 1, List.map (PV.int .i64) x9.States, 1⟩, ⟨3, 1, List.map (PV.int .i64) x9.Since, 1⟩, ⟨4, 1, List.map PV.bool x9.Pulled, 1⟩, ⟨4, 1, List.map PV.bool x7, 1⟩, ⟨34, 5, [.agg [.int .i64 x9.Time, .sl (n + 2) 1 0 (x1).length, .sl (n + 3) 1 0 (x3).length, .sl (n + 4) 1 0 (x5).length, .sl (n + 5) 1 0 (x7).length]], 1⟩]) (Vr hn) 4 rfl (Yx (loc2 := [⟨34, 5, [.agg [.int .i64 p0.Time, .vs 1 (List.map (PV.int .i64) p0.States), .vs 1 (List.map (PV.int .i64) p0.Since), .vs 1 (List.map PV.bool p0.Pulled), .vs 1 (List.map PV.bool p0.Held)]], 0⟩, ⟨34, 5, [.agg [.int .i64 0, .nils, .nils, .nils, .nils]], 0⟩, ⟨3, 1, List.map (PV.int .i64) x9.States, 1⟩, ⟨3, 1, List.map (PV.int .i64) x9.Since, 1⟩, ⟨4, 1, List.map PV.bool x9.Pulled, 1⟩, ⟨4, 1, List.map PV.bool x9.Held, 1⟩, ⟨34, 5, [.agg [.int .i64 x9.Time, .sl (n + 2) 1 0 (x1).length, .sl (n + 3) 1 0 (x3).length, .sl (n + 4) 1 0 (x5).length, .sl (n + 5) 1 0 (x7).length]], 1⟩]) (Vr hn) 5 rfl (Wh (ps0' := [(q0, ⟨27, 1, [.vs 2 (List.map T_Belt.enc pc10)], w0⟩), (q1, ⟨3, 1, [.int .i64 pc11], w1⟩)]) hB rfl 0 rfl (ltObjN hn ⟨.vs _ _, trivial⟩) rfl (Wh (ps0' := [(q0, ⟨27, 1, [.vs 2 (List.map T_Belt.enc pc10)], w0⟩), (q1, ⟨3, 1, [.int .i64 pc11], w1⟩)]) hB rfl 1 rfl (ltObjN hn ⟨.int _ _, trivial⟩) rfl Wl))))))) rfl) rfl ?_
  refine Vg ?_
  refine Vi ?_
  refine Ve ?_
  refine Va (Vu (ds := [.int .i64 x9.Time, .sl (n + 2) 1 0 (x1).length, .sl (n + 3) 1 0 (x3).length, .sl (n + 4) 1 0 (x5).length, .sl (n + 5) 1 0 (x7).length]) rfl (Vd (Vr hn) rfl) rfl ta_34 ts_34 rfl rfl rfl) rfl ?_
  refine Vk (Vx (p := .agg [.int .i64 x9.Time, .sl (n + 2) 1 0 (x1).length, .sl (n + 3) 1 0 (x3).length, .sl (n + 4) 1 0 (x5).length, .sl (n + 5) 1 0 (x7).length]) (e' := .agg [.int .i64 x9.Time, .sl (n + 2) 1 0 (x1).length, .sl (n + 3) 1 0 (x3).length, .sl (n + 4) 1 0 (x5).length, .sl (n + 5) 1 0 (x7).length]) rfl (Vd (Vr hn) rfl) rfl rfl ts_34 rfl (Yc rfl) rfl (Nat.le_of_ble_eq_true rfl) rfl (Xr (Vr hn) rfl)) rfl ?_
  refine Vg ?_
  refine Xb ?_
  obtain rfl := Option.some.inj hF
  refine Zy ?_
  refine Ya.trans (Xp (E' := [(4, .ptr (n + 1) 0 0 0)]) (loc1 := [⟨34, 5, [.agg [.int .i64 p0.Time, .vs 1 (List.map (PV.int .i64) p0.States), .vs 1 (List.map (PV.int .i64) p0.Since), .vs 1 (List.map PV.bool p0.Pulled), .vs 1 (List.map PV.bool p0.Held)]], 0⟩, ⟨34, 5, [.agg [.int .i64 x9.Time, .sl (n + 2) 1 0 (x1).length, .sl (n + 3) 1 0 (x3).length, .sl (n + 4) 1 0 (x5).length, .vs 1 (List.map PV.bool x9.Held)]], 0⟩, ⟨3, 1, List.map (PV.int .i64) x9.States, 1⟩, ⟨3, 1, List.map (PV.int .i64) x9.Since, 1⟩, ⟨4, 1, List.map PV.bool x9.Pulled, 1⟩, ⟨4, 1, [], 1 + 1⟩, ⟨34, 5, [.agg [.int .i64 x9.Time, .sl (n + 2) 1 0 (x1).length, .sl (n + 3) 1 0 (x3).length, .sl (n + 4) 1 0 (x5).length, .vs 1 (List.map PV.bool x9.Held)]], 1⟩]) (Vr hn) 5 rfl (Yh (fun _ => .bool _)) ⟨Vl rfl, trivial⟩ ⟨.refl _, Yq ⟨Vl rfl, Vl rfl, Vl rfl, Vl rfl, Zi rfl rfl rfl (Vy (F_belts_Stop_1_len h10 (rfl : (x1).length = _) (rfl : (x3).length = _) (rfl : (x5).length = _) (rfl : (x7).length = _)).2.2.2.1), trivial⟩, .refl _, .refl _, .refl _, .refl _, Yq ⟨Vl rfl, Vl rfl, Vl rfl, Vl rfl, Zi rfl rfl rfl (Vy (F_belts_Stop_1_len h10 (rfl : (x1).length = _) (rfl : (x3).length = _) (rfl : (x5).length = _) (rfl : (x7).length = _)).2.2.2.1), trivial⟩, trivial⟩) ?_
  exact Vv (Vr hn) [(2, 1), (3, 1), (4, 1), (1, 0)] (by decide) ⟨Yo 3 1 rfl rfl, trivial⟩ ⟨⟨_, rfl, rfl, .same _ _ _ _ (Vh (fun _ => .int _ _))⟩, ⟨_, rfl, rfl, .same _ _ _ _ (Vh (fun _ => .int _ _))⟩, ⟨_, rfl, rfl, .same _ _ _ _ (Vh (fun _ => .bool _))⟩, ⟨_, rfl, rfl, .agg _ _ _ _ _ ⟨Vs rfl (.int _ _), Xu 0 2 rfl (congrArg (PV.sl _ _ 0) (F_belts_Stop_1_len h10 (rfl : (x1).length = _) (rfl : (x3).length = _) (rfl : (x5).length = _) (rfl : (x7).length = _)).1), Xu 1 3 rfl (congrArg (PV.sl _ _ 0) (F_belts_Stop_1_len h10 (rfl : (x1).length = _) (rfl : (x3).length = _) (rfl : (x5).length = _) (rfl : (x7).length = _)).2.1), Xu 2 4 rfl (congrArg (PV.sl _ _ 0) (F_belts_Stop_1_len h10 (rfl : (x1).length = _) (rfl : (x3).length = _) (rfl : (x5).length = _) (rfl : (x7).length = _)).2.2.1), Vs rfl (.vs _ _), trivial⟩⟩, trivial⟩
 ·rintro _ _ _ _ ⟨he, hw⟩
  refine ⟨_, _, _, hw, ?_⟩
  exact Zj (Vr hn) 3 rfl (Nat.le_of_ble_eq_true rfl) he [.agg [.int .i64 r.Time, .sl (n + 0) 0 0 (r.States).length, .sl (n + 1) 0 0 (r.Since).length, .sl (n + 2) 0 0 (r.Pulled).length, .vs 1 (List.map PV.bool r.Held)]] ⟨Vu rfl (Vd (Vr hn) rfl) rfl ta_34 ts_34 rfl rfl rfl, trivial⟩ ((Xx ⟨.int _ _, .sl _ _ _ _ (Zr rfl), .sl _ _ _ _ (Zr rfl), .sl _ _ _ _ (Zr rfl), .vs _ _, trivial⟩)) ⟨Vh (fun _ => .int _ _), Vh (fun _ => .int _ _), Vh (fun _ => .bool _), trivial⟩ ⟨rfl, rfl⟩

theorem F_belts_done__belts_Stop_1_ok {p0 : T_Line} {pc10 : List T_Belt} {pc11 : Int} {r : T_Line} (hF : F_belts_done__belts_Stop_1 p0 pc10 pc11 = some r) {low : List AObj} {q0 q1 w0 w1 : Nat} (hnd : [q0, q1].Nodup) (hq0 : low[q0]? = some ⟨27, 1, [.vs 2 (List.map T_Belt.enc pc10)], w0⟩) (hq1 : low[q1]? = some ⟨3, 1, [.int .i64 pc11], w1⟩) {n : Nat} (hn : low.length = n) :
    Yv Try.prog 31 [.agg [.int .i64 p0.Time, .vs 1 (List.map (PV.int .i64) p0.States), .vs 1 (List.map (PV.int .i64) p0.Since), .vs 1 (List.map PV.bool p0.Pulled), .vs 1 (List.map PV.bool p0.Held)], .fn 51 [] [.ptr q0 w0 0 0, .ptr q1 w1 0 0]] low fun x low' => x = .agg [.int .i64 r.Time, .sl (n + 0) 0 0 (r.States).length, .sl (n + 1) 0 0 (r.Since).length, .sl (n + 2) 0 0 (r.Pulled).length, .vs 1 (List.map PV.bool r.Held)] ∧ low' = setL low [(q0, ⟨27, 1, [.vs 2 (List.map T_Belt.enc pc10)], w0⟩), (q1, ⟨3, 1, [.int .i64 pc11], w1⟩)] ++ [⟨3, 1, List.map (PV.int .i64) r.States, 0⟩, ⟨3, 1, List.map (PV.int .i64) r.Since, 0⟩, ⟨4, 1, List.map PV.bool r.Pulled, 0⟩] := by
  obtain ⟨h1, h2⟩ := Wk (ps := [(q0, ⟨27, 1, [.vs 2 (List.map T_Belt.enc pc10)], w0⟩), (q1, ⟨3, 1, [.int .i64 pc11], w1⟩)]) hnd (Zx hq0 (Zx hq1 bor0))
  exact Zz h1 (F_belts_done__belts_Stop_1_ok0 hF h2 hn)

theorem F_belts_Stop_ok {p0 : List T_Belt} {p1 : T_Line} {p2 : Int} {r : T_Line × Int} (hF : F_belts_Stop p0 p1 p2 = some r) (low : List AObj) {n : Nat} (hn : low.length = n) :
    Yv Try.prog 24 [.vs 2 (List.map T_Belt.enc p0), .agg [.int .i64 p1.Time, .vs 1 (List.map (PV.int .i64) p1.States), .vs 1 (List.map (PV.int .i64) p1.Since), .vs 1 (List.map PV.bool p1.Pulled), .vs 1 (List.map PV.bool p1.Held)], .int .i64 p2] low fun x low' => x = .tup [.agg [.int .i64 r.1.Time, .vs 1 (List.map (PV.int .i64) r.1.States), .vs 1 (List.map (PV.int .i64) r.1.Since), .vs 1 (List.map PV.bool r.1.Pulled), .vs 1 (List.map PV.bool r.1.Held)], .int .i64 r.2] ∧ low' = low ++ [] := by
 refine Xc (nt := 20) (rs := [.cell 6 34, .tmp 7]) Try.func24 rfl rfl (Nat.le_of_ble_eq_true rfl) rfl ?_
 refine Vw (Q' := FnE (fun E' lw lc => Ya E' lw lc [(6, .ptr (n + 0) 0 0 0), (7, .int .i64 r.2)] low [⟨34, 5, [.agg [.int .i64 r.1.Time, .vs 1 (List.map (PV.int .i64) r.1.States), .vs 1 (List.map (PV.int .i64) r.1.Since), .vs 1 (List.map PV.bool r.1.Pulled), .vs 1 (List.map PV.bool r.1.Held)]], 0⟩])) ?_ ?_
 ·unfold F_belts_Stop at hF
  refine Vi ?_
  refine Ve ?_
  refine Vk (Yw hn rfl (v := .vs 2 (List.map T_Belt.enc p0)) rfl rfl (Nat.succ_pos _) rfl rfl) rfl ?_
  refine Vk (Yw hn rfl (v := .agg [.int .i64 p1.Time, .vs 1 (List.map (PV.int .i64) p1.States), .vs 1 (List.map (PV.int .i64) p1.Since), .vs 1 (List.map PV.bool p1.Pulled), .vs 1 (List.map PV.bool p1.Held)]) rfl rfl (Nat.succ_pos _) rfl rfl) rfl ?_
  refine Vk (Yw hn rfl (v := .int .i64 p2) rfl rfl (Nat.succ_pos _) rfl rfl) rfl ?_
  refine Vk (Xe hn rfl tz_34 rfl rfl (Nat.succ_pos _) rfl) rfl ?_
  refine Va (Xa rfl) rfl ?_
  refine Vg ?_
  refine Vi ?_
  refine Vi ?_
  refine Ve ?_
  obtain ⟨x1, h2, hF⟩ := Ys hF
  refine Va (Vf rfl (Vd hn rfl) rfl ta_27 rfl) rfl ?_
  refine Va (Vu (ds := [.int .i64 p1.Time, .vs 1 (List.map (PV.int .i64) p1.States), .vs 1 (List.map (PV.int .i64) p1.Since), .vs 1 (List.map PV.bool p1.Pulled), .vs 1 (List.map PV.bool p1.Held)]) rfl (Vd hn rfl) rfl ta_34 ts_34 rfl rfl rfl) rfl ?_
  refine Va (Vf rfl (Vd hn rfl) rfl ta_3 rfl) rfl ?_
  refine Vk (Xk rfl Try.call30 (F_belts_checked_ok h2 _)) rfl ?_
  refine Va (Xa rfl) rfl ?_
  refine Vg ?_
  refine Vi ?_
  refine Ve ?_
  refine Va (Vj rfl) rfl ?_
  refine Va (Zb rfl rfl) rfl ?_
  refine Vg ?_
  refine Xj rfl (fun c3 => ?_) (fun c3 => ?_)
  ·have hF := Yl c3 hF
   refine Vi ?_
   refine Ve ?_
   refine Va (Vu (ds := [.int .i64 p1.Time, .vs 1 (List.map (PV.int .i64) p1.States), .vs 1 (List.map (PV.int .i64) p1.Since), .vs 1 (List.map PV.bool p1.Pulled), .vs 1 (List.map PV.bool p1.Held)]) rfl (Vd hn rfl) rfl ta_34 ts_34 rfl rfl rfl) rfl ?_
   refine Va (Vj rfl) rfl ?_
   refine Vk (Vx (p := .agg [.int .i64 p1.Time, .vs 1 (List.map (PV.int .i64) p1.States), .vs 1 (List.map (PV.int .i64) p1.Since), .vs 1 (List.map PV.bool p1.Pulled), .vs 1 (List.map PV.bool p1.Held)]) (e' := .agg [.int .i64 p1.Time, .vs 1 (List.map (PV.int .i64) p1.States), .vs 1 (List.map (PV.int .i64) p1.Since), .vs 1 (List.map PV.bool p1.Pulled), .vs 1 (List.map PV.bool p1.Held)]) rfl (Vd hn rfl) rfl rfl ts_34 rfl (Yc rfl) rfl (Nat.le_of_ble_eq_true rfl) rfl (Xr hn rfl)) rfl ?_
   refine Va (Xa rfl) rfl ?_
   refine Vg ?_
   refine Xb ?_
   obtain rfl := Option.some.inj hF
   refine Zy ?_
   exact Vv hn [(3, 0)] (by decide) ⟨Yo 0 3 rfl rfl, Vs rfl (.int _ _), trivial⟩ ⟨⟨_, rfl, rfl, .same _ _ _ _ (Xt ⟨Xx ⟨.int _ _, .vs _ _, .vs _ _, .vs _ _, .vs _ _, trivial⟩, trivial⟩)⟩, trivial⟩
  ·have hF := Ym c3 hF
   refine Xq ?_
   refine Vi ?_
   refine Ve ?_
   obtain ⟨x4, h5, hF⟩ := Ys hF
   refine Va (Vu (ds := [.int .i64 p1.Time, .vs 1 (List.map (PV.int .i64) p1.States), .vs 1 (List.map (PV.int .i64) p1.Since), .vs 1 (List.map PV.bool p1.Pulled), .vs 1 (List.map PV.bool p1.Held)]) rfl (Vd hn rfl) rfl ta_34 ts_34 rfl rfl rfl) rfl ?_
   refine Va (rd_makeFn rfl) rfl ?_
   refine Vk (Wc (ps := [((n + 0), ⟨27, 1, [.vs 2 (List.map T_Belt.enc p0)], 0⟩), ((n + 2), ⟨3, 1, [.int .i64 p2], 0⟩)]) (r := .agg [.int .i64 x4.Time, .sl (n + 4) 0 0 (x4.States).length, .sl (n + 5) 0 0 (x4.Since).length, .sl (n + 6) 0 0 (x4.Pulled).length, .vs 1 (List.map PV.bool x4.Held)]) (os := [⟨3, 1, List.map (PV.int .i64) x4.States, 0⟩, ⟨3, 1, List.map (PV.int .i64) x4.Since, 0⟩, ⟨4, 1, List.map PV.bool x4.Pulled, 0⟩]) (low1 := low) (loc1 := [⟨27, 1, [.vs 2 (List.map T_Belt.enc p0)], 0⟩, ⟨34, 5, [.agg [.int .i64 p1.Time, .vs 1 (List.map (PV.int .i64) p1.States), .vs 1 (List.map (PV.int .i64) p1.Since), .vs 1 (List.map PV.bool p1.Pulled), .vs 1 (List.map PV.bool p1.Held)]], 0⟩, ⟨3, 1, [.int .i64 p2], 0⟩, ⟨34, 5, [.agg [.int .i64 0, .nils, .nils, .nils, .nils]], 0⟩]) (loc2 := [⟨27, 1, [.vs 2 (List.map T_Belt.enc p0)], 0⟩, ⟨34, 5, [.agg [.int .i64 p1.Time, .vs 1 (List.map (PV.int .i64) p1.States), .vs 1 (List.map (PV.int .i64) p1.Since), .vs 1 (List.map PV.bool p1.Pulled), .vs 1 (List.map PV.bool p1.Held)]], 0⟩, ⟨3, 1, [.int .i64 p2], 0⟩, ⟨34, 5, [.agg [.int .i64 0, .nils, .nils, .nils, .nils]], 0⟩, ⟨3, 1, List.map (PV.int .i64) x4.States, 0⟩, ⟨3, 1, List.map (PV.int .i64) x4.Since, 0⟩, ⟨4, 1, List.map PV.bool x4.Pulled, 0⟩]) rfl Try.call31 (F_belts_done__belts_Stop_1_ok h5 (nd1 (Zq (Yt rfl) na0) (nd1 na0 nd0)) (Zw hn rfl) (Zw hn rfl) (Xn hn rfl)) (Yx (loc2 := [⟨27, 1, [.vs 2 (List.map T_Belt.enc p0)], 0⟩, ⟨34, 5, [.agg [.int .i64 p1.Time, .vs 1 (List.map (PV.int .i64) p1.States), .vs 1 (List.map (PV.int .i64) p1.Since), .vs 1 (List.map PV.bool p1.Pulled), .vs 1 (List.map PV.bool p1.Held)]], 0⟩, ⟨3, 1, [.int .i64 p2], 0⟩, ⟨34, 5, [.agg [.int .i64 0, .nils, .nils, .nils, .nils]], 0⟩]) hn 0 rfl (Yx (loc2 := [⟨27, 1, [.vs 2 (List.map T_Belt.enc p0)], 0⟩, ⟨34, 5, [.agg [.int .i64 p1.Time, .vs 1 (List.map (PV.int .i64) p1.States), .vs 1 (List.map (PV.int .i64) p1.Since), .vs 1 (List.map PV.bool p1.Pulled), .vs 1 (List.map PV.bool p1.Held)]], 0⟩, ⟨3, 1, [.int .i64 p2], 0⟩, ⟨34, 5, [.agg [.int .i64 0, .nils, .nils, .nils, .nils]], 0⟩]) hn 2 rfl Wl)) rfl) rfl ?_
   refine Vk (Vx (p := .agg [.int .i64 x4.Time, .sl (n + 4) 0 0 (x4.States).length, .sl (n + 5) 0 0 (x4.Since).length, .sl (n + 6) 0 0 (x4.Pulled).length, .vs 1 (List.map PV.bool x4.Held)]) (e' := .agg [.int .i64 x4.Time, .sl (n + 4) 0 0 (x4.States).length, .sl (n + 5) 0 0 (x4.Since).length, .sl (n + 6) 0 0 (x4.Pulled).length, .vs 1 (List.map PV.bool x4.Held)]) rfl (Vd hn rfl) rfl rfl ts_34 rfl (Yc rfl) rfl (Nat.le_of_ble_eq_true rfl) rfl (Xr hn rfl)) rfl ?_
   refine Va (Xa rfl) rfl ?_
   refine Vg ?_
   refine Xb ?_
   obtain rfl := Option.some.inj hF
   refine Zy ?_
   refine Ya.trans (Xp (E' := [(6, .ptr (n + 3) 0 0 0), (7, .int .i64 0)]) (loc1 := [⟨27, 1, [.vs 2 (List.map T_Belt.enc p0)], 0⟩, ⟨34, 5, [.agg [.int .i64 p1.Time, .vs 1 (List.map (PV.int .i64) p1.States), .vs 1 (List.map (PV.int .i64) p1.Since), .vs 1 (List.map PV.bool p1.Pulled), .vs 1 (List.map PV.bool p1.Held)]], 0⟩, ⟨3, 1, [.int .i64 p2], 0⟩, ⟨34, 5, [.agg [.int .i64 x4.Time, .vs 1 (List.map (PV.int .i64) x4.States), .sl (n + 5) 0 0 (x4.Since).length, .sl (n + 6) 0 0 (x4.Pulled).length, .vs 1 (List.map PV.bool x4.Held)]], 0⟩, ⟨3, 1, [], 0 + 1⟩, ⟨3, 1, List.map (PV.int .i64) x4.Since, 0⟩, ⟨4, 1, List.map PV.bool x4.Pulled, 0⟩]) hn 4 rfl (Yh (fun _ => .int _ _)) ⟨Vl rfl, Vl rfl, trivial⟩ ⟨.refl _, .refl _, .refl _, Yq ⟨Vl rfl, Zi rfl rfl rfl (Vy rfl), Vl rfl, Vl rfl, Vl rfl, trivial⟩, .refl _, .refl _, .refl _, trivial⟩) ?_
   refine Ya.trans (Xp (E' := [(6, .ptr (n + 3) 0 0 0), (7, .int .i64 0)]) (loc1 := [⟨27, 1, [.vs 2 (List.map T_Belt.enc p0)], 0⟩, ⟨34, 5, [.agg [.int .i64 p1.Time, .vs 1 (List.map (PV.int .i64) p1.States), .vs 1 (List.map (PV.int .i64) p1.Since), .vs 1 (List.map PV.bool p1.Pulled), .vs 1 (List.map PV.bool p1.Held)]], 0⟩, ⟨3, 1, [.int .i64 p2], 0⟩, ⟨34, 5, [.agg [.int .i64 x4.Time, .vs 1 (List.map (PV.int .i64) x4.States), .vs 1 (List.map (PV.int .i64) x4.Since), .sl (n + 6) 0 0 (x4.Pulled).length, .vs 1 (List.map PV.bool x4.Held)]], 0⟩, ⟨3, 1, [], 0 + 1⟩, ⟨3, 1, [], 0 + 1⟩, ⟨4, 1, List.map PV.bool x4.Pulled, 0⟩]) hn 5 rfl (Yh (fun _ => .int _ _)) ⟨Vl rfl, Vl rfl, trivial⟩ ⟨.refl _, .refl _, .refl _, Yq ⟨Vl rfl, Vl rfl, Zi rfl rfl rfl (Vy rfl), Vl rfl, Vl rfl, trivial⟩, .refl _, .refl _, .refl _, trivial⟩) ?_
   refine Ya.trans (Xp (E' := [(6, .ptr (n + 3) 0 0 0), (7, .int .i64 0)]) (loc1 := [⟨27, 1, [.vs 2 (List.map T_Belt.enc p0)], 0⟩, ⟨34, 5, [.agg [.int .i64 p1.Time, .vs 1 (List.map (PV.int .i64) p1.States), .vs 1 (List.map (PV.int .i64) p1.Since), .vs 1 (List.map PV.bool p1.Pulled), .vs 1 (List.map PV.bool p1.Held)]], 0⟩, ⟨3, 1, [.int .i64 p2], 0⟩, ⟨34, 5, [.agg [.int .i64 x4.Time, .vs 1 (List.map (PV.int .i64) x4.States), .vs 1 (List.map (PV.int .i64) x4.Since), .vs 1 (List.map PV.bool x4.Pulled), .vs 1 (List.map PV.bool x4.Held)]], 0⟩, ⟨3, 1, [], 0 + 1⟩, ⟨3, 1, [], 0 + 1⟩, ⟨4, 1, [], 0 + 1⟩]) hn 6 rfl (Yh (fun _ => .bool _)) ⟨Vl rfl, Vl rfl, trivial⟩ ⟨.refl _, .refl _, .refl _, Yq ⟨Vl rfl, Vl rfl, Vl rfl, Zi rfl rfl rfl (Vy rfl), Vl rfl, trivial⟩, .refl _, .refl _, .refl _, trivial⟩) ?_
   exact Vv hn [(3, 0)] (by decide) ⟨Yo 0 3 rfl rfl, Vs rfl (.int _ _), trivial⟩ ⟨⟨_, rfl, rfl, .same _ _ _ _ (Xt ⟨Xx ⟨.int _ _, .vs _ _, .vs _ _, .vs _ _, .vs _ _, trivial⟩, trivial⟩)⟩, trivial⟩
 ·rintro _ _ _ _ ⟨he, hw⟩
  refine ⟨_, _, _, hw, ?_⟩
  exact Zj hn 0 rfl (Nat.le_of_ble_eq_true rfl) he [.agg [.int .i64 r.1.Time, .vs 1 (List.map (PV.int .i64) r.1.States), .vs 1 (List.map (PV.int .i64) r.1.Since), .vs 1 (List.map PV.bool r.1.Pulled), .vs 1 (List.map PV.bool r.1.Held)], .int .i64 r.2] ⟨Vu rfl (Vd hn rfl) rfl ta_34 ts_34 rfl rfl rfl, rfl, trivial⟩ ((lt_tup ⟨(Xx ⟨.int _ _, .vs _ _, .vs _ _, .vs _ _, .vs _ _, trivial⟩), .int _ _, trivial⟩)) trivial ⟨rfl, rfl⟩

theorem F_ref39_Above_ok {p0 : List T_Belt} {p1 : Int} {r : List Int} (hF : F_ref39_Above p0 p1 = some r) (low : List AObj) {n : Nat} (hn : low.length = n) :
    Yv Try.prog 43 [.vs 2 (List.map T_Belt.enc p0), .int .i64 p1] low fun x low' => x = .sl (n + 0) 0 0 (r).length ∧ low' = low ++ [⟨3, 1, List.map (PV.int .i64) r, 0⟩] := by
 refine Xc (nt := 47) (rs := [.tmp 4]) Try.func43 rfl rfl (Nat.le_of_ble_eq_true rfl) rfl ?_
 refine Vw (Q' := FnE (fun E' lw lc => Ya E' lw lc [(4, .sl (n + 0) 0 0 (r).length)] low [⟨3, 1, List.map (PV.int .i64) r, 0⟩])) ?_ ?_
 ·unfold F_ref39_Above at hF
  refine Vi ?_
  refine Ve ?_
  refine Vk (vef_nilsN hn rfl 3 1 (Nat.succ_pos _) (rd_asN rfl)) rfl ?_
  refine Vg ?_
  refine Vi ?_
  refine Vi ?_
  obtain ⟨o1, ho1, hF⟩ := Ys hF
  refine Vw (Q' := (fun o1 => OnlyE .normal (fun E' lw lc => Ya E' lw lc [(0, .vs 2 (List.map T_Belt.enc p0)), (1, .int .i64 p1), (20, .bool o1)] low [])) o1) ?_ ?_
  ·replace hF := ho1
   refine Ve ?_
   obtain ⟨x2, h3, hF⟩ := Ys hF
   rcases Bool.eq_false_or_eq_true (!x2) with c4 | c4
   ·have hF := Yl c4 hF
    refine Va (Xd rfl) rfl ?_
    refine Vk (Xk rfl Try.call44 (F_ref39_belts_ok h3 _)) rfl ?_
    refine Va (Zn rfl) rfl ?_
    refine Va (Vm rfl) rfl ?_
    refine Vb rfl rfl (Zh c4) rfl ?_
    refine Vb rfl rfl (Zh c4) rfl ?_
    refine Va (Vp (congrArg PV.bool c4) rfl) rfl ?_
    refine Va (Vm rfl) rfl ?_
    refine Vb rfl rfl (by decide) rfl ?_
    refine Vb rfl rfl (by decide) rfl ?_
    refine Vb rfl rfl (by decide) rfl ?_
    refine Vb rfl rfl (by decide) rfl ?_
    refine Va (Vp rfl rfl) rfl ?_
    refine Vg ?_
    obtain rfl := Option.some.inj hF
    refine Xv ?_
    exact Vv hn [] (by decide) ⟨Vs rfl (.vs _ _), Vs rfl (.int _ _), Vs rfl (.bool _), trivial⟩ trivial
   ·have hF := Ym c4 hF
    rcases Bool.eq_false_or_eq_true (decide (p1 < 0)) with c5 | c5
    ·have hF := Yl c5 hF
     refine Va (Xd rfl) rfl ?_
     refine Vk (Xk rfl Try.call44 (F_ref39_belts_ok h3 _)) rfl ?_
     refine Va (Zn rfl) rfl ?_
     refine Va (Vm rfl) rfl ?_
     refine Vz rfl rfl c4 ?_
     refine Va (Vj rfl) rfl ?_
     refine Vz rfl rfl c4 ?_
     refine Va (Zo rfl rfl) rfl ?_
     refine Va (Vo (congrArg PV.bool c4) rfl) rfl ?_
     refine Va (Vm rfl) rfl ?_
     refine Vb rfl rfl (Zh c5) rfl ?_
     refine Vb rfl rfl (Zh c5) rfl ?_
     refine Vb rfl rfl (Zh c5) rfl ?_
     refine Vb rfl rfl (Zh c5) rfl ?_
     refine Va (Vp (congrArg PV.bool c5) rfl) rfl ?_
     refine Vg ?_
     obtain rfl := Option.some.inj hF
     refine Xv ?_
     exact Vv hn [] (by decide) ⟨Vs rfl (.vs _ _), Vs rfl (.int _ _), Vs rfl (.bool _), trivial⟩ trivial
    ·have hF := Ym c5 hF
     refine Va (Xd rfl) rfl ?_
     refine Vk (Xk rfl Try.call44 (F_ref39_belts_ok h3 _)) rfl ?_
     refine Va (Zn rfl) rfl ?_
     refine Va (Vm rfl) rfl ?_
     refine Vz rfl rfl c4 ?_
     refine Va (Vj rfl) rfl ?_
     refine Vz rfl rfl c4 ?_
     refine Va (Zo rfl rfl) rfl ?_
     refine Va (Vo (congrArg PV.bool c4) rfl) rfl ?_
     refine Va (Vm rfl) rfl ?_
     refine Vz rfl rfl c5 ?_
     refine Va (Vj rfl) rfl ?_
     refine Vz rfl rfl c5 ?_
     refine Va (Xd rfl) rfl ?_
     refine Vz rfl rfl c5 ?_
     refine Va (Xi (Xo rfl rfl te_27) (congrArg (fun n : Nat => PV.int .i64 (n : Int)) (List.length_map _))) rfl ?_
     refine Vz rfl rfl c5 ?_
     refine Va (rd_geq rfl rfl) rfl ?_
     refine Va (Vo (congrArg PV.bool c5) rfl) rfl ?_
     refine Vg ?_
     obtain rfl := Option.some.inj hF
     refine Xv ?_
     exact Vv hn [] (by decide) ⟨Vs rfl (.vs _ _), Vs rfl (.int _ _), Vs rfl (.bool _), trivial⟩ trivial
  ·rintro _ _ _ _ ⟨rfl, hw⟩
   refine ⟨_, _, _, hw, ?_⟩
   refine Xj rfl (fun c6 => ?_) (fun c6 => ?_)
   ·have hF := Yl c6 hF
    refine Vi ?_
    refine Ve ?_
    refine Vk (vef_nilsN hn rfl 3 1 (Nat.succ_pos _) (rd_asN rfl)) rfl ?_
    refine Vg ?_
    refine Xb ?_
    obtain rfl := Option.some.inj hF
    refine Zy ?_
    exact Vq ⟨rfl, trivial⟩
   ·have hF := Ym c6 hF
    refine Xq ?_
    refine Vi ?_
    refine Ve ?_
    refine Vk (vef_nilsN hn rfl 3 1 (Nat.succ_pos _) (rd_asN rfl)) rfl ?_
    refine Vg ?_
    refine Vi ?_
    refine Vi ?_
    refine Ve ?_
    refine Va (Xa rfl) rfl ?_
    refine Vg ?_
    refine Yk ?_
    obtain ⟨o8, ho8, hF⟩ := Ys hF
    refine Vw (Zu (F_ref39_Above_L1 p0 p1) (fun s7 E' lw lc => Ya E' lw lc [(0, .vs 2 (List.map T_Belt.enc p0)), (1, .int .i64 p1), (5, .sl (n + 0) 0 0 (s7.2).length), (6, .int .i64 s7.1)] low [⟨3, 1, List.map (PV.int .i64) s7.2, 0⟩]) (fun o8 => OnlyE (.exit 0) (fun E' lw lc => Ya E' lw lc [(5, .sl (n + 0) 0 0 (o8).length)] low [⟨3, 1, List.map (PV.int .i64) o8, 0⟩])) ho8 ?_ (by rintro _ _ _ _ ⟨h, _⟩ <;> cases h) ?_) ?_
    ·exact Vq ⟨rfl, rfl, rfl, rfl, trivial⟩
    ·rintro s7 os7 _ _ _ hF hw
     unfold F_ref39_Above_L1 at hF
     refine Ye hw ?_
     refine Vi ?_
     refine Vi ?_
     refine Ve ?_
     refine Va (Vj rfl) rfl ?_
     refine Va (Xd rfl) rfl ?_
     refine Va (Xi (Xo rfl rfl te_27) (congrArg (fun n : Nat => PV.int .i64 (n : Int)) (List.length_map _))) rfl ?_
     refine Va (Zo rfl rfl) rfl ?_
     refine Vg ?_
     refine Xj rfl (fun c9 => ?_) (fun c9 => ?_)
     ·have hF := Yl c9 hF
      refine Xq ?_
      refine Vi ?_
      refine Yk ?_
      refine Vi ?_
      refine Ve ?_
      obtain ⟨x10, h11, hF⟩ := Ys hF
      refine Va (Xd rfl) rfl ?_
      refine Va (Vj rfl) rfl ?_
      refine Va (Xi (Yj rfl rfl h11 te_27 ts_31) (v' := .vptr [.int .i64 x10.Onto, .int .i64 x10.Warn] 0) rfl) rfl ?_
      refine Va (Yb rfl tf_31_0 ts_3 (by decide)) rfl ?_
      refine Va (Xg rfl ta_3 rfl) rfl ?_
      refine Va (Xa rfl) rfl ?_
      refine Vg ?_
      refine Yk ?_
      obtain ⟨o13, ho13, hF⟩ := Ys hF
      refine Vw (Zu (F_ref39_Above_L2 p0 p1 s7) (fun s12 E' lw lc => Ya E' lw lc [(0, .vs 2 (List.map T_Belt.enc p0)), (1, .int .i64 p1), (5, .sl (n + 0) 0 0 (s12.2).length), (6, .int .i64 s7.1), (7, .int .i64 s12.1)] low [⟨3, 1, List.map (PV.int .i64) s12.2, 0⟩]) (fun o13 => OnlyE (.exit 2) (fun E' lw lc => Ya E' lw lc [(0, .vs 2 (List.map T_Belt.enc p0)), (1, .int .i64 p1), (5, .sl (n + 0) 0 0 (o13).length), (6, .int .i64 s7.1)] low [⟨3, 1, List.map (PV.int .i64) o13, 0⟩])) ho13 ?_ (by rintro _ _ _ _ ⟨h, _⟩ <;> cases h) ?_) ?_
      ·exact Vq ⟨rfl, rfl, rfl, rfl, rfl, trivial⟩
      ·rintro s12 os12 _ _ _ hF hw
       unfold F_ref39_Above_L2 at hF
       refine Ye hw ?_
       refine Vi ?_
       refine Vi ?_
       refine Ve ?_
       refine Va (Vj rfl) rfl ?_
       refine Va (rd_geq rfl rfl) rfl ?_
       refine Vg ?_
       refine Xj rfl (fun c14 => ?_) (fun c14 => ?_)
       ·have hF := Yl c14 hF
        refine Xq ?_
        refine Vi ?_
        obtain ⟨o15, ho15, hF⟩ := Ys hF
        refine Vw (Q' := (fun o15 => OnlyE .normal (fun E' lw lc => Ya E' lw lc [(0, .vs 2 (List.map T_Belt.enc p0)), (1, .int .i64 p1), (5, .sl (n + 0) 0 0 (o15).length), (6, .int .i64 s7.1), (7, .int .i64 s12.1)] low [⟨3, 1, List.map (PV.int .i64) o15, 0⟩])) o15) ?_ ?_
        ·replace hF := ho15
         refine Yk ?_
         refine Vi ?_
         refine Ve ?_
         refine Va (Vj rfl) rfl ?_
         refine Va (Vj rfl) rfl ?_
         refine Va (Xm rfl rfl) rfl ?_
         refine Vg ?_
         refine Xj rfl (fun c16 => ?_) (fun c16 => ?_)
         ·have hF := Yl c16 hF
          refine Ve ?_
          obtain ⟨x17, h18, hF⟩ := Ys hF
          refine Va (rd_mvL rfl) rfl ?_
          refine Va (Vj rfl) rfl ?_
          refine Vk (vef_litF (es := List.map (PV.int .i64) [s7.1]) ⟨rfl, rfl, trivial⟩ rfl rfl (nt_all rfl) te_22 ts_3 tz_3 rfl rfl (Nat.succ_pos _) (by decide) (Yh (fun _ => .int _ _))) rfl ?_
          refine Vk (vef_apL (f := (PV.int .i64)) (l := s12.2) (ys := [s7.1]) rfl rfl (Vd hn rfl) rfl (src_vs rfl) te_22 ts_3 tb_3 (by decide) tz_3 rfl h18 (Xr hn rfl)) rfl ?_
          refine Va (rd_asL rfl) rfl ?_
          refine Vg ?_
          obtain rfl := Option.some.inj hF
          refine Xv ?_
          exact Vv hn [(0, 0 + 1)] (by decide) ⟨Vs rfl (.vs _ _), Vs rfl (.int _ _), Xu 0 0 rfl rfl, Vs rfl (.int _ _), Vs rfl (.int _ _), trivial⟩ ⟨⟨_, rfl, rfl, .same _ _ _ _ (Vh (fun _ => .int _ _))⟩, trivial⟩
         ·have hF := Ym c16 hF
          refine Xq ?_
          obtain rfl := Option.some.inj hF
          refine Xv ?_
          exact Vq ⟨rfl, rfl, rfl, rfl, rfl, trivial⟩
        ·rintro _ _ _ _ ⟨rfl, hw⟩
         refine ⟨_, _, _, hw, ?_⟩
         refine Ve ?_
         obtain ⟨x19, h20, hF⟩ := Ys hF
         refine Va (Xd rfl) rfl ?_
         refine Va (Vj rfl) rfl ?_
         refine Va (Xi (Yj rfl rfl h20 te_27 ts_31) (v' := .vptr [.int .i64 x19.Onto, .int .i64 x19.Warn] 0) rfl) rfl ?_
         refine Va (Yb rfl tf_31_0 ts_3 (by decide)) rfl ?_
         refine Va (Xg rfl ta_3 rfl) rfl ?_
         refine Va (Xa rfl) rfl ?_
         refine Vg ?_
         obtain rfl := Option.some.inj hF
         refine Xv ?_
         exact Vq ⟨rfl, rfl, rfl, rfl, rfl, trivial⟩
       ·have hF := Ym c14 hF
        refine We ?_
        obtain rfl := Option.some.inj hF
        refine Xv ?_
        exact Vq ⟨rfl, rfl, rfl, rfl, trivial⟩
      ·rintro _ _ _ _ ⟨rfl, hw⟩
       refine ⟨_, _, _, hw, ?_⟩
       refine Ve ?_
       refine Va (Vj rfl) rfl ?_
       refine Va (rd_add rfl rfl rfl) rfl ?_
       refine Va (Xa rfl) rfl ?_
       refine Vg ?_
       obtain rfl := Option.some.inj hF
       refine Xv ?_
       exact Vq ⟨rfl, rfl, rfl, rfl, trivial⟩
     ·have hF := Ym c9 hF
      refine We ?_
      obtain rfl := Option.some.inj hF
      refine Xv ?_
      exact Vq ⟨rfl, trivial⟩
    ·rintro _ _ _ _ ⟨rfl, hw⟩
     refine ⟨_, _, _, hw, ?_⟩
     refine Vi ?_
     refine Ve ?_
     refine Va (rd_mvL rfl) rfl ?_
     refine Va (rd_asL rfl) rfl ?_
     refine Vg ?_
     refine Xb ?_
     obtain rfl := Option.some.inj hF
     refine Zy ?_
     exact Vq ⟨rfl, trivial⟩
 ·rintro _ _ _ _ ⟨he, hw⟩
  refine ⟨_, _, _, hw, ?_⟩
  exact bodyQ_all he [.sl (n + 0) 0 0 (r).length] ⟨rfl, trivial⟩ ⟨rfl, rfl⟩

theorem F_ref39_stop_ok {p0 : List T_Belt} {p1 : T_Line} {p2 : Int} {r : T_Line} (hF : F_ref39_stop p0 p1 p2 = some r) (low : List AObj) {n : Nat} (hn : low.length = n) :
    Yv Try.prog 58 [.vs 2 (List.map T_Belt.enc p0), .agg [.int .i64 p1.Time, .vs 1 (List.map (PV.int .i64) p1.States), .vs 1 (List.map (PV.int .i64) p1.Since), .vs 1 (List.map PV.bool p1.Pulled), .vs 1 (List.map PV.bool p1.Held)], .int .i64 p2] low fun x low' => x = .agg [.int .i64 r.Time, .sl (n + 0) 0 0 (r.States).length, .sl (n + 1) 0 0 (r.Since).length, .sl (n + 2) 0 0 (r.Pulled).length, .sl (n + 3) 0 0 (r.Held).length] ∧ low' = low ++ [⟨3, 1, List.map (PV.int .i64) r.States, 0⟩, ⟨3, 1, List.map (PV.int .i64) r.Since, 0⟩, ⟨4, 1, List.map PV.bool r.Pulled, 0⟩, ⟨4, 1, List.map PV.bool r.Held, 0⟩] := by
 refine Xc (nt := 49) (rs := [.cell 6 34]) Try.func58 rfl rfl (Nat.le_of_ble_eq_true rfl) rfl ?_
 refine Vw (Q' := FnE (fun E' lw lc => Ya E' lw lc [(6, .ptr (n + 4) 0 0 0)] low [⟨3, 1, List.map (PV.int .i64) r.States, 0⟩, ⟨3, 1, List.map (PV.int .i64) r.Since, 0⟩, ⟨4, 1, List.map PV.bool r.Pulled, 0⟩, ⟨4, 1, List.map PV.bool r.Held, 0⟩, ⟨34, 5, [.agg [.int .i64 r.Time, .sl (n + 0) 0 0 (r.States).length, .sl (n + 1) 0 0 (r.Since).length, .sl (n + 2) 0 0 (r.Pulled).length, .sl (n + 3) 0 0 (r.Held).length]], 0⟩])) ?_ ?_
 ·unfold F_ref39_stop at hF
  refine Vi ?_
  refine Ve ?_
  refine Vk (Yw hn rfl (v := .agg [.int .i64 p1.Time, .vs 1 (List.map (PV.int .i64) p1.States), .vs 1 (List.map (PV.int .i64) p1.Since), .vs 1 (List.map PV.bool p1.Pulled), .vs 1 (List.map PV.bool p1.Held)]) rfl rfl (Nat.succ_pos _) rfl rfl) rfl ?_
  refine Vk (Xe hn rfl tz_34 rfl rfl (Nat.succ_pos _) rfl) rfl ?_
  refine Vg ?_
  refine Vi ?_
  refine Ve ?_
  obtain ⟨x1, h2, hF⟩ := Ys hF
  refine Va (Vu (ds := [.int .i64 p1.Time, .vs 1 (List.map (PV.int .i64) p1.States), .vs 1 (List.map (PV.int .i64) p1.Since), .vs 1 (List.map PV.bool p1.Pulled), .vs 1 (List.map PV.bool p1.Held)]) rfl (Vd hn rfl) rfl ta_34 ts_34 rfl rfl rfl) rfl ?_
  refine Vk (Xf (r := .agg [.int .i64 x1.Time, .sl (n + 2) 0 0 (x1.States).length, .sl (n + 3) 0 0 (x1.Since).length, .sl (n + 4) 0 0 (x1.Pulled).length, .sl (n + 5) 0 0 (x1.Held).length]) (os := [⟨3, 1, List.map (PV.int .i64) x1.States, 0⟩, ⟨3, 1, List.map (PV.int .i64) x1.Since, 0⟩, ⟨4, 1, List.map PV.bool x1.Pulled, 0⟩, ⟨4, 1, List.map PV.bool x1.Held, 0⟩]) rfl Try.call23 (F_ref39_Copy_ok h2 _ (Xn hn rfl))) rfl ?_
  refine Vk (Vx (p := .agg [.int .i64 x1.Time, .sl (n + 2) 0 0 (x1.States).length, .sl (n + 3) 0 0 (x1.Since).length, .sl (n + 4) 0 0 (x1.Pulled).length, .sl (n + 5) 0 0 (x1.Held).length]) (e' := .agg [.int .i64 x1.Time, .sl (n + 2) 0 0 (x1.States).length, .sl (n + 3) 0 0 (x1.Since).length, .sl (n + 4) 0 0 (x1.Pulled).length, .sl (n + 5) 0 0 (x1.Held).length]) rfl (Vd hn rfl) rfl rfl ts_34 rfl (Yc rfl) rfl (Nat.le_of_ble_eq_true rfl) rfl (Xr hn rfl)) rfl ?_
  refine Vg ?_
  refine Vi ?_
  refine Ve ?_
  obtain ⟨x3, h4, hF⟩ := Ys hF
  obtain ⟨x5, h6, hF⟩ := Ys hF
  refine Va (Xd rfl) rfl ?_
  refine Va (Vj rfl) rfl ?_
  refine Vk (Xf (r := .sl (n + 6) 0 0 (x3).length) (os := [⟨3, 1, List.map (PV.int .i64) x3, 0⟩]) rfl Try.call43 (F_ref39_Above_ok h4 _ (Xn hn rfl))) rfl ?_
  refine Va (Vj rfl) rfl ?_
  refine Vk (vef_litF (es := List.map (PV.int .i64) [p2]) ⟨rfl, rfl, trivial⟩ rfl rfl (nt_all rfl) te_22 ts_3 tz_3 rfl rfl (Nat.succ_pos _) (by decide) (Yh (fun _ => .int _ _))) rfl ?_
  refine Vk (vef_apL (f := (PV.int .i64)) (l := x3) (ys := [p2]) rfl rfl (Vd hn rfl) rfl (src_vs rfl) te_22 ts_3 tb_3 (by decide) tz_3 rfl h6 (Xr hn rfl)) rfl ?_
  refine Va (rd_asL rfl) rfl ?_
  refine Vg ?_
  refine Vi ?_
  refine Vi ?_
  refine Ve ?_
  refine Va (Xa rfl) rfl ?_
  refine Vg ?_
  refine Yk ?_
  obtain ⟨o8, ho8, hF⟩ := Ys hF
  refine Vw (Zu F_ref39_stop_L1 (fun s7 E' lw lc => Ya E' lw lc [(4, .ptr (n + 0) 0 0 0), (6, .ptr (n + 1) 0 0 0), (7, .vs 1 (List.map (PV.int .i64) s7.1)), (8, .int .i64 s7.2.1)] low [⟨34, 5, [.agg [.int .i64 s7.2.2.Time, .sl (n + 2) 0 0 (s7.2.2.States).length, .sl (n + 3) 0 0 (s7.2.2.Since).length, .sl (n + 4) 0 0 (s7.2.2.Pulled).length, .sl (n + 5) 0 0 (s7.2.2.Held).length]], 0⟩, ⟨34, 5, [.agg [.int .i64 0, .nils, .nils, .nils, .nils]], 0⟩, ⟨3, 1, List.map (PV.int .i64) s7.2.2.States, 0⟩, ⟨3, 1, List.map (PV.int .i64) s7.2.2.Since, 0⟩, ⟨4, 1, List.map PV.bool s7.2.2.Pulled, 0⟩, ⟨4, 1, List.map PV.bool s7.2.2.Held, 0⟩]) (fun o8 => OnlyE (.exit 0) (fun E' lw lc => Ya E' lw lc [(4, .ptr (n + 0) 0 0 0), (6, .ptr (n + 1) 0 0 0)] low [⟨34, 5, [.agg [.int .i64 o8.Time, .sl (n + 2) 0 0 (o8.States).length, .sl (n + 3) 0 0 (o8.Since).length, .sl (n + 4) 0 0 (o8.Pulled).length, .sl (n + 5) 0 0 (o8.Held).length]], 0⟩, ⟨34, 5, [.agg [.int .i64 0, .nils, .nils, .nils, .nils]], 0⟩, ⟨3, 1, List.map (PV.int .i64) o8.States, 0⟩, ⟨3, 1, List.map (PV.int .i64) o8.Since, 0⟩, ⟨4, 1, List.map PV.bool o8.Pulled, 0⟩, ⟨4, 1, List.map PV.bool o8.Held, 0⟩])) ho8 ?_ (by rintro _ _ _ _ ⟨h, _⟩ <;> cases h) ?_) ?_
  ·refine Ya.trans (Xp (E' := [(4, .ptr (n + 0) 0 0 0), (6, .ptr (n + 1) 0 0 0), (7, .vs 1 (List.map (PV.int .i64) x5)), (8, .int .i64 0)]) (loc1 := [⟨34, 5, [.agg [.int .i64 x1.Time, .sl (n + 2) 0 0 (x1.States).length, .sl (n + 3) 0 0 (x1.Since).length, .sl (n + 4) 0 0 (x1.Pulled).length, .sl (n + 5) 0 0 (x1.Held).length]], 0⟩, ⟨34, 5, [.agg [.int .i64 0, .nils, .nils, .nils, .nils]], 0⟩, ⟨3, 1, List.map (PV.int .i64) x1.States, 0⟩, ⟨3, 1, List.map (PV.int .i64) x1.Since, 0⟩, ⟨4, 1, List.map PV.bool x1.Pulled, 0⟩, ⟨4, 1, List.map PV.bool x1.Held, 0⟩, ⟨3, 1, [], (0 + 1) + 1⟩]) hn 6 rfl (Yh (fun _ => .int _ _)) ⟨Vl rfl, Vl rfl, Zi rfl rfl rfl (Vy rfl), Vl rfl, trivial⟩ ⟨.refl _, .refl _, .refl _, .refl _, .refl _, .refl _, .refl _, trivial⟩) ?_
   exact Vv hn [(0, 0), (1, 0), (2, 0), (3, 0), (4, 0), (5, 0)] (by decide) ⟨Yo 0 0 rfl rfl, Yo 1 1 rfl rfl, Vs rfl (.vs _ _), Vs rfl (.int _ _), trivial⟩ ⟨⟨_, rfl, rfl, .agg _ _ _ _ _ ⟨Vs rfl (.int _ _), Xu 2 2 rfl rfl, Xu 3 3 rfl rfl, Xu 4 4 rfl rfl, Xu 5 5 rfl rfl, trivial⟩⟩, ⟨_, rfl, rfl, .same _ _ _ _ (Xt ⟨Xx ⟨.int _ _, .nils, .nils, .nils, .nils, trivial⟩, trivial⟩)⟩, ⟨_, rfl, rfl, .same _ _ _ _ (Vh (fun _ => .int _ _))⟩, ⟨_, rfl, rfl, .same _ _ _ _ (Vh (fun _ => .int _ _))⟩, ⟨_, rfl, rfl, .same _ _ _ _ (Vh (fun _ => .bool _))⟩, ⟨_, rfl, rfl, .same _ _ _ _ (Vh (fun _ => .bool _))⟩, trivial⟩
  ·rintro s7 os7 _ _ _ hF hw
   unfold F_ref39_stop_L1 at hF
   refine Ye hw ?_
   refine Vi ?_
   refine Vi ?_
   refine Ve ?_
   refine Va (Vj rfl) rfl ?_
   refine Va (Xd rfl) rfl ?_
   refine Va (Xi (Xo rfl rfl te_22) (congrArg (fun n : Nat => PV.int .i64 (n : Int)) (List.length_map _))) rfl ?_
   refine Va (Zo rfl rfl) rfl ?_
   refine Vg ?_
   refine Xj rfl (fun c9 => ?_) (fun c9 => ?_)
   ·have hF := Yl c9 hF
    refine Xq ?_
    refine Vi ?_
    obtain ⟨o10, ho10, hF⟩ := Ys hF
    refine Vw (Q' := (fun o10 => OnlyE .normal (fun E' lw lc => Ya E' lw lc [(4, .ptr (n + 0) 0 0 0), (6, .ptr (n + 1) 0 0 0), (7, .vs 1 (List.map (PV.int .i64) s7.1)), (8, .int .i64 s7.2.1)] low [⟨34, 5, [.agg [.int .i64 o10.Time, .sl (n + 2) 0 0 (o10.States).length, .sl (n + 3) 0 0 (o10.Since).length, .sl (n + 4) 0 0 (o10.Pulled).length, .sl (n + 5) 0 0 (o10.Held).length]], 0⟩, ⟨34, 5, [.agg [.int .i64 0, .nils, .nils, .nils, .nils]], 0⟩, ⟨3, 1, List.map (PV.int .i64) o10.States, 0⟩, ⟨3, 1, List.map (PV.int .i64) o10.Since, 0⟩, ⟨4, 1, List.map PV.bool o10.Pulled, 0⟩, ⟨4, 1, List.map PV.bool o10.Held, 0⟩])) o10) ?_ ?_
    ·replace hF := ho10
     refine Yk ?_
     refine Vi ?_
     obtain ⟨x11, h12, hF⟩ := Ys hF
     obtain ⟨x13, h14, hF⟩ := Ys hF
     refine Zf [[], [0], [], [], [2, 3], [2, 3, 4], [0, 1, 2, 3, 4, 5], [0, 1, 2, 3, 4, 5, 6], [0, 1, 2, 3, 4, 5, 6, 7]] mixed (by kernel_rfl) rfl ?_
     refine Yn rfl rfl (Vc rfl tf_34_1 ts_22 (by decide)) ?_
     refine Yn rfl rfl (Vf rfl (Vd hn rfl) rfl ta_22 rfl) ?_
     refine Yn rfl rfl (Xd rfl) ?_
     refine Yn rfl rfl (Vj rfl) ?_
     refine Yn rfl rfl (Xi (Yj rfl rfl h12 te_22 ts_3) (v' := .vptr [.int .i64 x11] 0) rfl) ?_
     refine Yn rfl rfl (Xg rfl ta_3 rfl) ?_
     refine Yn rfl rfl (Zv rfl rfl rfl (Vd hn rfl) h14 te_22 ts_3) ?_
     refine Yn rfl rfl (rd_ldL1 rfl (Vd hn rfl) (Zc h14).2 ta_3 rfl) ?_
     refine Yn rfl rfl (Zb rfl rfl) ?_
     refine Yz ?_
     refine Xj rfl (fun c15 => ?_) (fun c15 => ?_)
     ·have hF := Yl c15 hF
      obtain ⟨x16, h17, hF⟩ := Ys hF
      obtain ⟨x18, h19, hF⟩ := Ys hF
      obtain ⟨x20, h21, hF⟩ := Ys hF
      obtain ⟨x22, h23, hF⟩ := Ys hF
      refine Wb [[], [0], [], [], [2, 3], [2, 3, 4], [], [6], [], [], [8, 9], [8, 9, 10], [], [12], [0, 1, 2, 3, 4, 5, 8, 9, 10, 11], [0, 1, 2, 3, 4, 5, 8, 9, 10, 11, 14], [0, 1, 2, 3, 4, 5, 6, 7, 8, 9, 10, 11, 12, 13, 14, 15], [0, 1, 2, 3, 4, 5, 6, 7, 8, 9, 10, 11, 12, 13, 14, 15, 16]] [false, false, false, false, false, false, false, false, false, false, false, false, false, false, false, true, false, true] [(low, [⟨34, 5, [.agg [.int .i64 s7.2.2.Time, .sl (n + 2) 0 0 (s7.2.2.States).length, .sl (n + 3) 0 0 (s7.2.2.Since).length, .sl (n + 4) 0 0 (s7.2.2.Pulled).length, .sl (n + 5) 0 0 (s7.2.2.Held).length]], 0⟩, ⟨34, 5, [.agg [.int .i64 0, .nils, .nils, .nils, .nils]], 0⟩, ⟨3, 1, List.map (PV.int .i64) s7.2.2.States, 0⟩, ⟨3, 1, List.map (PV.int .i64) s7.2.2.Since, 0⟩, ⟨4, 1, List.map PV.bool s7.2.2.Pulled, 0⟩, ⟨4, 1, List.map PV.bool s7.2.2.Held, 0⟩]), (low, [⟨34, 5, [.agg [.int .i64 s7.2.2.Time, .sl (n + 2) 0 0 (s7.2.2.States).length, .sl (n + 3) 0 0 (s7.2.2.Since).length, .sl (n + 4) 0 0 (s7.2.2.Pulled).length, .sl (n + 5) 0 0 (s7.2.2.Held).length]], 0⟩, ⟨34, 5, [.agg [.int .i64 0, .nils, .nils, .nils, .nils]], 0⟩, ⟨3, 1, List.map (PV.int .i64) (s7.2.2.States.set ((x16).toNat) 0), 0⟩, ⟨3, 1, List.map (PV.int .i64) s7.2.2.Since, 0⟩, ⟨4, 1, List.map PV.bool s7.2.2.Pulled, 0⟩, ⟨4, 1, List.map PV.bool s7.2.2.Held, 0⟩]), (low, [⟨34, 5, [.agg [.int .i64 s7.2.2.Time, .sl (n + 2) 0 0 (s7.2.2.States).length, .sl (n + 3) 0 0 (s7.2.2.Since).length, .sl (n + 4) 0 0 (s7.2.2.Pulled).length, .sl (n + 5) 0 0 (s7.2.2.Held).length]], 0⟩, ⟨34, 5, [.agg [.int .i64 0, .nils, .nils, .nils, .nils]], 0⟩, ⟨3, 1, List.map (PV.int .i64) (s7.2.2.States.set ((x16).toNat) 0), 0⟩, ⟨3, 1, List.map (PV.int .i64) (s7.2.2.Since.set ((x18).toNat) s7.2.2.Time), 0⟩, ⟨4, 1, List.map PV.bool s7.2.2.Pulled, 0⟩, ⟨4, 1, List.map PV.bool s7.2.2.Held, 0⟩])] mixed (by kernel_rfl) rfl (lenAll (Yg rfl (Yg rfl (Yg rfl Zt)))) rfl _ rfl rfl ?_
      refine Yn rfl rfl (Vc rfl tf_34_1 ts_22 (by decide)) ?_
      refine Yn rfl rfl (Vf rfl (Vd hn rfl) rfl ta_22 rfl) ?_
      refine Yn rfl rfl (Xd rfl) ?_
      refine Yn rfl rfl (Vj rfl) ?_
      refine Yn rfl rfl (Xi (Yj rfl rfl h17 te_22 ts_3) (v' := .vptr [.int .i64 x16] 0) rfl) ?_
      refine Yn rfl rfl (Xg rfl ta_3 rfl) ?_
      refine Yy _ rfl rfl (Yg (Xh.ntl (Vc rfl tf_34_2 ts_22 (by decide))) (Yg (Xh.ntl (Vc rfl tf_34_2 ts_22 (by decide))) Zt)) ?_
      refine Yy _ rfl rfl (Yg (Xh.ntl (Vf rfl (Vd hn rfl) rfl ta_22 rfl)) (Yg (Xh.ntl (Vf rfl (Vd hn rfl) rfl ta_22 rfl)) Zt)) ?_
      refine Yn rfl rfl (Xd rfl) ?_
      refine Yn rfl rfl (Vj rfl) ?_
      refine Yn rfl rfl (Xi (Yj rfl rfl h19 te_22 ts_3) (v' := .vptr [.int .i64 x18] 0) rfl) ?_
      refine Yn rfl rfl (Xg rfl ta_3 rfl) ?_
      refine Yy _ rfl rfl (Yg (Xh.ntl (Vc rfl tf_34_0 ts_3 (by decide))) (Yg (Xh.ntl (Vc rfl tf_34_0 ts_3 (by decide))) Zt)) ?_
      refine Yy _ rfl rfl (Yg (Xh.ntl (Vf rfl (Vd hn rfl) rfl ta_3 rfl)) (Yg (Xh.ntl (Vf rfl (Vd hn rfl) rfl ta_3 rfl)) Zt)) ?_
      refine Yn rfl rfl (Zv rfl rfl rfl (Vd hn rfl) h21 te_22 ts_3) ?_
      refine Zp rfl rfl rfl (vef_stL (p := .int .i64 0) (e' := 0) rfl (Vd hn rfl) (Zc h21).2 rfl ts_3 rfl (Yc rfl) (Nat.le_of_ble_eq_true rfl) rfl (Xr hn rfl)) ?_
      refine Yn rfl rfl (Zv rfl rfl rfl (Vd hn rfl) h23 te_22 ts_3) ?_
      refine Zp rfl rfl rfl (vef_stL (p := .int .i64 s7.2.2.Time) (e' := s7.2.2.Time) rfl (Vd hn rfl) (Zc h23).2 rfl ts_3 rfl (Yc rfl) (Nat.le_of_ble_eq_true rfl) rfl (Xr hn rfl)) ?_
      refine Yz ?_
      obtain rfl := Option.some.inj hF
      refine Xv ?_
      exact Vv hn [(0, 0), (1, 0), (2, 0), (3, 0), (4, 0), (5, 0)] (by decide) ⟨Yo 0 0 rfl rfl, Yo 1 1 rfl rfl, Vs rfl (.vs _ _), Vs rfl (.int _ _), trivial⟩ ⟨⟨_, rfl, rfl, .agg _ _ _ _ _ ⟨Vs rfl (.int _ _), Xu 2 2 rfl (congrArg (PV.sl _ _ 0) (Eq.trans rfl List.length_set.symm)), Xu 3 3 rfl (congrArg (PV.sl _ _ 0) (Eq.trans rfl List.length_set.symm)), Xu 4 4 rfl rfl, Xu 5 5 rfl rfl, trivial⟩⟩, ⟨_, rfl, rfl, .same _ _ _ _ (Xt ⟨Xx ⟨.int _ _, .nils, .nils, .nils, .nils, trivial⟩, trivial⟩)⟩, ⟨_, rfl, rfl, .same _ _ _ _ (Vh (fun _ => .int _ _))⟩, ⟨_, rfl, rfl, .same _ _ _ _ (Vh (fun _ => .int _ _))⟩, ⟨_, rfl, rfl, .same _ _ _ _ (Vh (fun _ => .bool _))⟩, ⟨_, rfl, rfl, .same _ _ _ _ (Vh (fun _ => .bool _))⟩, trivial⟩
     ·have hF := Ym c15 hF
      refine Xq ?_
      obtain rfl := Option.some.inj hF
      refine Xv ?_
      exact Vq ⟨rfl, rfl, rfl, rfl, trivial⟩
    ·rintro _ _ _ _ ⟨rfl, hw⟩
     refine ⟨_, _, _, hw, ?_⟩
     refine Ve ?_
     refine Va (Vj rfl) rfl ?_
     refine Va (rd_add rfl rfl rfl) rfl ?_
     refine Va (Xa rfl) rfl ?_
     refine Vg ?_
     obtain rfl := Option.some.inj hF
     refine Xv ?_
     exact Vq ⟨rfl, rfl, rfl, rfl, trivial⟩
   ·have hF := Ym c9 hF
    refine We ?_
    obtain rfl := Option.some.inj hF
    refine Xv ?_
    exact Vq ⟨rfl, rfl, trivial⟩
  ·rintro _ _ _ _ ⟨rfl, hw⟩
   refine ⟨_, _, _, hw, ?_⟩
   refine Vi ?_
   refine Ve ?_
   refine Va (Vu (ds := [.int .i64 o8.Time, .sl (n + 2) 0 0 (o8.States).length, .sl (n + 3) 0 0 (o8.Since).length, .sl (n + 4) 0 0 (o8.Pulled).length, .sl (n + 5) 0 0 (o8.Held).length]) rfl (Vd hn rfl) rfl ta_34 ts_34 rfl rfl rfl) rfl ?_
   refine Vk (Vx (p := .agg [.int .i64 o8.Time, .sl (n + 2) 0 0 (o8.States).length, .sl (n + 3) 0 0 (o8.Since).length, .sl (n + 4) 0 0 (o8.Pulled).length, .sl (n + 5) 0 0 (o8.Held).length]) (e' := .agg [.int .i64 o8.Time, .sl (n + 2) 0 0 (o8.States).length, .sl (n + 3) 0 0 (o8.Since).length, .sl (n + 4) 0 0 (o8.Pulled).length, .sl (n + 5) 0 0 (o8.Held).length]) rfl (Vd hn rfl) rfl rfl ts_34 rfl (Yc rfl) rfl (Nat.le_of_ble_eq_true rfl) rfl (Xr hn rfl)) rfl ?_
   refine Vg ?_
   refine Xb ?_
   obtain rfl := Option.some.inj hF
   refine Zy ?_
   exact Vv hn [(2, 0), (3, 0), (4, 0), (5, 0), (1, 0)] (by decide) ⟨Yo 4 1 rfl rfl, trivial⟩ ⟨⟨_, rfl, rfl, .same _ _ _ _ (Vh (fun _ => .int _ _))⟩, ⟨_, rfl, rfl, .same _ _ _ _ (Vh (fun _ => .int _ _))⟩, ⟨_, rfl, rfl, .same _ _ _ _ (Vh (fun _ => .bool _))⟩, ⟨_, rfl, rfl, .same _ _ _ _ (Vh (fun _ => .bool _))⟩, ⟨_, rfl, rfl, .agg _ _ _ _ _ ⟨Vs rfl (.int _ _), Xu 0 2 rfl rfl, Xu 1 3 rfl rfl, Xu 2 4 rfl rfl, Xu 3 5 rfl rfl, trivial⟩⟩, trivial⟩
 ·rintro _ _ _ _ ⟨he, hw⟩
  refine ⟨_, _, _, hw, ?_⟩
  exact Zj hn 4 rfl (Nat.le_of_ble_eq_true rfl) he [.agg [.int .i64 r.Time, .sl (n + 0) 0 0 (r.States).length, .sl (n + 1) 0 0 (r.Since).length, .sl (n + 2) 0 0 (r.Pulled).length, .sl (n + 3) 0 0 (r.Held).length]] ⟨Vu rfl (Vd hn rfl) rfl ta_34 ts_34 rfl rfl rfl, trivial⟩ ((Xx ⟨.int _ _, .sl _ _ _ _ (Zr rfl), .sl _ _ _ _ (Zr rfl), .sl _ _ _ _ (Zr rfl), .sl _ _ _ _ (Zr rfl), trivial⟩)) ⟨Vh (fun _ => .int _ _), Vh (fun _ => .int _ _), Vh (fun _ => .bool _), Vh (fun _ => .bool _), trivial⟩ ⟨rfl, rfl⟩

theorem F_ref39_Stop_ok {p0 : List T_Belt} {p1 : T_Line} {p2 : Int} {r : T_Line × Int} (hF : F_ref39_Stop p0 p1 p2 = some r) (low : List AObj) {n : Nat} (hn : low.length = n) :
    Yv Try.prog 47 [.vs 2 (List.map T_Belt.enc p0), .agg [.int .i64 p1.Time, .vs 1 (List.map (PV.int .i64) p1.States), .vs 1 (List.map (PV.int .i64) p1.Since), .vs 1 (List.map PV.bool p1.Pulled), .vs 1 (List.map PV.bool p1.Held)], .int .i64 p2] low fun x low' => x = .tup [.agg [.int .i64 r.1.Time, .sl (n + 0) 0 0 (r.1.States).length, .sl (n + 1) 0 0 (r.1.Since).length, .sl (n + 2) 0 0 (r.1.Pulled).length, .vs 1 (List.map PV.bool r.1.Held)], .int .i64 r.2] ∧ low' = low ++ [⟨3, 1, List.map (PV.int .i64) r.1.States, 0⟩, ⟨3, 1, List.map (PV.int .i64) r.1.Since, 0⟩, ⟨4, 1, List.map PV.bool r.1.Pulled, 0⟩] := by
 refine Xc (nt := 22) (rs := [.cell 6 34, .tmp 7]) Try.func47 rfl rfl (Nat.le_of_ble_eq_true rfl) rfl ?_
 refine Vw (Q' := FnE (fun E' lw lc => Ya E' lw lc [(6, .ptr (n + 3) 0 0 0), (7, .int .i64 r.2)] low [⟨3, 1, List.map (PV.int .i64) r.1.States, 0⟩, ⟨3, 1, List.map (PV.int .i64) r.1.Since, 0⟩, ⟨4, 1, List.map PV.bool r.1.Pulled, 0⟩, ⟨34, 5, [.agg [.int .i64 r.1.Time, .sl (n + 0) 0 0 (r.1.States).length, .sl (n + 1) 0 0 (r.1.Since).length, .sl (n + 2) 0 0 (r.1.Pulled).length, .vs 1 (List.map PV.bool r.1.Held)]], 0⟩])) ?_ ?_
 ·unfold F_ref39_Stop at hF
  refine Vi ?_
  refine Ve ?_
  refine Vk (Yw hn rfl (v := .agg [.int .i64 p1.Time, .vs 1 (List.map (PV.int .i64) p1.States), .vs 1 (List.map (PV.int .i64) p1.Since), .vs 1 (List.map PV.bool p1.Pulled), .vs 1 (List.map PV.bool p1.Held)]) rfl rfl (Nat.succ_pos _) rfl rfl) rfl ?_
  refine Vk (Xe hn rfl tz_34 rfl rfl (Nat.succ_pos _) rfl) rfl ?_
  refine Va (Xa rfl) rfl ?_
  refine Vg ?_
  refine Vi ?_
  refine Vi ?_
  refine Ve ?_
  obtain ⟨x1, h2, hF⟩ := Ys hF
  refine Va (Xd rfl) rfl ?_
  refine Va (Vu (ds := [.int .i64 p1.Time, .vs 1 (List.map (PV.int .i64) p1.States), .vs 1 (List.map (PV.int .i64) p1.Since), .vs 1 (List.map PV.bool p1.Pulled), .vs 1 (List.map PV.bool p1.Held)]) rfl (Vd hn rfl) rfl ta_34 ts_34 rfl rfl rfl) rfl ?_
  refine Va (Vj rfl) rfl ?_
  refine Vk (Xk rfl Try.call57 (F_ref39_check_ok h2 _)) rfl ?_
  refine Va (Xa rfl) rfl ?_
  refine Vg ?_
  refine Vi ?_
  refine Ve ?_
  refine Va (Vj rfl) rfl ?_
  refine Va (Zb rfl rfl) rfl ?_
  refine Vg ?_
  refine Xj rfl (fun c3 => ?_) (fun c3 => ?_)
  ·have hF := Yl c3 hF
   refine Vi ?_
   refine Ve ?_
   obtain ⟨x4, h5, hF⟩ := Ys hF
   refine Va (Vu (ds := [.int .i64 p1.Time, .vs 1 (List.map (PV.int .i64) p1.States), .vs 1 (List.map (PV.int .i64) p1.Since), .vs 1 (List.map PV.bool p1.Pulled), .vs 1 (List.map PV.bool p1.Held)]) rfl (Vd hn rfl) rfl ta_34 ts_34 rfl rfl rfl) rfl ?_
   refine Vk (Xf (r := .agg [.int .i64 x4.Time, .sl (n + 2) 0 0 (x4.States).length, .sl (n + 3) 0 0 (x4.Since).length, .sl (n + 4) 0 0 (x4.Pulled).length, .sl (n + 5) 0 0 (x4.Held).length]) (os := [⟨3, 1, List.map (PV.int .i64) x4.States, 0⟩, ⟨3, 1, List.map (PV.int .i64) x4.Since, 0⟩, ⟨4, 1, List.map PV.bool x4.Pulled, 0⟩, ⟨4, 1, List.map PV.bool x4.Held, 0⟩]) rfl Try.call23 (F_ref39_Copy_ok h5 _ (Xn hn rfl))) rfl ?_
   refine Va (Vj rfl) rfl ?_
   refine Vk (Vx (p := .agg [.int .i64 x4.Time, .sl (n + 2) 0 0 (x4.States).length, .sl (n + 3) 0 0 (x4.Since).length, .sl (n + 4) 0 0 (x4.Pulled).length, .sl (n + 5) 0 0 (x4.Held).length]) (e' := .agg [.int .i64 x4.Time, .sl (n + 2) 0 0 (x4.States).length, .sl (n + 3) 0 0 (x4.Since).length, .sl (n + 4) 0 0 (x4.Pulled).length, .sl (n + 5) 0 0 (x4.Held).length]) rfl (Vd hn rfl) rfl rfl ts_34 rfl (Yc rfl) rfl (Nat.le_of_ble_eq_true rfl) rfl (Xr hn rfl)) rfl ?_
   refine Va (Xa rfl) rfl ?_
   refine Vg ?_
   refine Xb ?_
   obtain rfl := Option.some.inj hF
   refine Zy ?_
   refine Ya.trans (Xp (E' := [(6, .ptr (n + 1) 0 0 0), (7, .int .i64 x1)]) (loc1 := [⟨34, 5, [.agg [.int .i64 p1.Time, .vs 1 (List.map (PV.int .i64) p1.States), .vs 1 (List.map (PV.int .i64) p1.Since), .vs 1 (List.map PV.bool p1.Pulled), .vs 1 (List.map PV.bool p1.Held)]], 0⟩, ⟨34, 5, [.agg [.int .i64 x4.Time, .sl (n + 2) 0 0 (x4.States).length, .sl (n + 3) 0 0 (x4.Since).length, .sl (n + 4) 0 0 (x4.Pulled).length, .vs 1 (List.map PV.bool x4.Held)]], 0⟩, ⟨3, 1, List.map (PV.int .i64) x4.States, 0⟩, ⟨3, 1, List.map (PV.int .i64) x4.Since, 0⟩, ⟨4, 1, List.map PV.bool x4.Pulled, 0⟩, ⟨4, 1, [], 0 + 1⟩]) hn 5 rfl (Yh (fun _ => .bool _)) ⟨Vl rfl, Vl rfl, trivial⟩ ⟨.refl _, Yq ⟨Vl rfl, Vl rfl, Vl rfl, Vl rfl, Zi rfl rfl rfl (Vy rfl), trivial⟩, .refl _, .refl _, .refl _, .refl _, trivial⟩) ?_
   exact Vv hn [(2, 0), (3, 0), (4, 0), (1, 0)] (by decide) ⟨Yo 3 1 rfl rfl, Vs rfl (.int _ _), trivial⟩ ⟨⟨_, rfl, rfl, .same _ _ _ _ (Vh (fun _ => .int _ _))⟩, ⟨_, rfl, rfl, .same _ _ _ _ (Vh (fun _ => .int _ _))⟩, ⟨_, rfl, rfl, .same _ _ _ _ (Vh (fun _ => .bool _))⟩, ⟨_, rfl, rfl, .agg _ _ _ _ _ ⟨Vs rfl (.int _ _), Xu 0 2 rfl rfl, Xu 1 3 rfl rfl, Xu 2 4 rfl rfl, Vs rfl (.vs _ _), trivial⟩⟩, trivial⟩
  ·have hF := Ym c3 hF
   refine Xq ?_
   refine Vi ?_
   refine Ve ?_
   obtain ⟨x6, h7, hF⟩ := Ys hF
   refine Va (Xd rfl) rfl ?_
   refine Va (Vu (ds := [.int .i64 p1.Time, .vs 1 (List.map (PV.int .i64) p1.States), .vs 1 (List.map (PV.int .i64) p1.Since), .vs 1 (List.map PV.bool p1.Pulled), .vs 1 (List.map PV.bool p1.Held)]) rfl (Vd hn rfl) rfl ta_34 ts_34 rfl rfl rfl) rfl ?_
   refine Va (Vj rfl) rfl ?_
   refine Vk (Xf (r := .agg [.int .i64 x6.Time, .sl (n + 2) 0 0 (x6.States).length, .sl (n + 3) 0 0 (x6.Since).length, .sl (n + 4) 0 0 (x6.Pulled).length, .sl (n + 5) 0 0 (x6.Held).length]) (os := [⟨3, 1, List.map (PV.int .i64) x6.States, 0⟩, ⟨3, 1, List.map (PV.int .i64) x6.Since, 0⟩, ⟨4, 1, List.map PV.bool x6.Pulled, 0⟩, ⟨4, 1, List.map PV.bool x6.Held, 0⟩]) rfl Try.call58 (F_ref39_stop_ok h7 _ (Xn hn rfl))) rfl ?_
   refine Vk (Vx (p := .agg [.int .i64 x6.Time, .sl (n + 2) 0 0 (x6.States).length, .sl (n + 3) 0 0 (x6.Since).length, .sl (n + 4) 0 0 (x6.Pulled).length, .sl (n + 5) 0 0 (x6.Held).length]) (e' := .agg [.int .i64 x6.Time, .sl (n + 2) 0 0 (x6.States).length, .sl (n + 3) 0 0 (x6.Since).length, .sl (n + 4) 0 0 (x6.Pulled).length, .sl (n + 5) 0 0 (x6.Held).length]) rfl (Vd hn rfl) rfl rfl ts_34 rfl (Yc rfl) rfl (Nat.le_of_ble_eq_true rfl) rfl (Xr hn rfl)) rfl ?_
   refine Va (Xa rfl) rfl ?_
   refine Vg ?_
   refine Xb ?_
   obtain rfl := Option.some.inj hF
   refine Zy ?_
   refine Ya.trans (Xp (E' := [(6, .ptr (n + 1) 0 0 0), (7, .int .i64 0)]) (loc1 := [⟨34, 5, [.agg [.int .i64 p1.Time, .vs 1 (List.map (PV.int .i64) p1.States), .vs 1 (List.map (PV.int .i64) p1.Since), .vs 1 (List.map PV.bool p1.Pulled), .vs 1 (List.map PV.bool p1.Held)]], 0⟩, ⟨34, 5, [.agg [.int .i64 x6.Time, .sl (n + 2) 0 0 (x6.States).length, .sl (n + 3) 0 0 (x6.Since).length, .sl (n + 4) 0 0 (x6.Pulled).length, .vs 1 (List.map PV.bool x6.Held)]], 0⟩, ⟨3, 1, List.map (PV.int .i64) x6.States, 0⟩, ⟨3, 1, List.map (PV.int .i64) x6.Since, 0⟩, ⟨4, 1, List.map PV.bool x6.Pulled, 0⟩, ⟨4, 1, [], 0 + 1⟩]) hn 5 rfl (Yh (fun _ => .bool _)) ⟨Vl rfl, Vl rfl, trivial⟩ ⟨.refl _, Yq ⟨Vl rfl, Vl rfl, Vl rfl, Vl rfl, Zi rfl rfl rfl (Vy rfl), trivial⟩, .refl _, .refl _, .refl _, .refl _, trivial⟩) ?_
   exact Vv hn [(2, 0), (3, 0), (4, 0), (1, 0)] (by decide) ⟨Yo 3 1 rfl rfl, Vs rfl (.int _ _), trivial⟩ ⟨⟨_, rfl, rfl, .same _ _ _ _ (Vh (fun _ => .int _ _))⟩, ⟨_, rfl, rfl, .same _ _ _ _ (Vh (fun _ => .int _ _))⟩, ⟨_, rfl, rfl, .same _ _ _ _ (Vh (fun _ => .bool _))⟩, ⟨_, rfl, rfl, .agg _ _ _ _ _ ⟨Vs rfl (.int _ _), Xu 0 2 rfl rfl, Xu 1 3 rfl rfl, Xu 2 4 rfl rfl, Vs rfl (.vs _ _), trivial⟩⟩, trivial⟩
 ·rintro _ _ _ _ ⟨he, hw⟩
  refine ⟨_, _, _, hw, ?_⟩
  exact Zj hn 3 rfl (Nat.le_of_ble_eq_true rfl) he [.agg [.int .i64 r.1.Time, .sl (n + 0) 0 0 (r.1.States).length, .sl (n + 1) 0 0 (r.1.Since).length, .sl (n + 2) 0 0 (r.1.Pulled).length, .vs 1 (List.map PV.bool r.1.Held)], .int .i64 r.2] ⟨Vu rfl (Vd hn rfl) rfl ta_34 ts_34 rfl rfl rfl, rfl, trivial⟩ ((lt_tup ⟨(Xx ⟨.int _ _, .sl _ _ _ _ (Zr rfl), .sl _ _ _ _ (Zr rfl), .sl _ _ _ _ (Zr rfl), .vs _ _, trivial⟩), .int _ _, trivial⟩)) ⟨Vh (fun _ => .int _ _), Vh (fun _ => .int _ _), Vh (fun _ => .bool _), trivial⟩ ⟨rfl, rfl⟩

end Go.Proofs.Ytmomjhbinkmefaa
