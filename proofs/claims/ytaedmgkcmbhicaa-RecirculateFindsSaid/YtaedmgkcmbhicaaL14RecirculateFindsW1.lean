/- Printed by wip/lift/lift.py: the walks that show that the program computes them. -/
import Derived.Test.YtaedmgkcmbhicaaR14T
import Derived.Test.YtaedmgkcmbhicaaAmlDE
import Derived.Test.YtaedmgkcmbhicaaL14D
namespace Go.Proofs.Ytaedmgkcmbhicaa
open Go Go.Aml Go.L
attribute [local irreducible] VRd VEf VOp VOps VWp DOps
set_option linter.unusedVariables false
open Go.Aml renaming vops_rd → Va, rd_fieldAddr → Vb, vops_skip → Vc, vwp_region → Vd, vops_nil → Ve, vwp_seq → Vf, getO_N → Vg, rn_low → Vh, vops_efE → Vi, rd_load1 → Vj, rd_mvI → Vk, lenS → Vl, weak_pick → Vm, ltObj_es → Vn, lt_agg → Vo, weak_sub → Vp, ltObj_map → Vq, rd_mvB → Vr, vwp_monoW → Vs, rn_ptr → Vt, cv_same → Vu, all1 → Vv, vef_store → Vw, dops_rdW → Vx, rd_pickF → Vy, vef_callS → Vz, rd_loadN → Xa, nn_same → Xb, rd_pickT → Xc, vt1 → Xd, rd_loadV1 → Xe, sets_nil → Xf, rd_mvP → Xg, vwp_block → Xh, vwp_cond → Xi, vwp_skip → Xj, onlyE → Xk, vops_take → Xl, vef_allocN → Xm, setO_N → Xn, rd_to → Xo, len_setL → Xp, rd_fieldVaddr → Xq, vcalls_of_body → Xr, len_app → Xs, Lift → Xt, rd_ixV → Xu, rd_asI → Xv, rd_mvV → Xw, vef_callP → Xx, VRd → Xy, Weak → Xz, dops_ef → Ya, vwp_ret → Yb, rn_sl → Yc, dr1 → Yd, rd_build → Ye, bnd → Yf, nt_ne → Yg, nt_all2 → Yh, getI_some → Yi, lp_bindE → Yj, sets_B → Yk, vwp_weak → Yl, lt_map → Ym, rd_mvL → Yn, ltObjN → Yo, rd_nilPtr → Yp, bifT → Yq, bifF → Yr, getO_B → Ys, vef_litF → Yt, rd_lenV → Yu, weak_freezeN → Yv, all0 → Yw, dops_nil → Yx, vwp_loopC → Yy, rd_lss → Yz, lp_some → Za, get_B → Zb, bodyQ_pure → Zc, vwp_exit → Zd, neF → Ze, rd_add → Zf, dops_skip → Zg, VCalls → Zh, rd_asB → Zi, full_take → Zj, rd_eql → Zk, vops_skipX → Zl, nt_all → Zm, vwp_drawn → Zn, rd_loadVN → Zo, rd_sub → Zp, rd_gtr → Zq, rd_ixS → Zr, rd_ldL1 → Zs, dopx_rd → Zt, rx1 → Zu, sets_own → Zv, vef_apL → Zw, vef_boxN → Zx, vwp_drawn0 → Zy, vcalls_low → Zz
open List renaming map → Wa
open Go.Aml.PV renaming int → Wb
open Go.Aml.PV renaming bool → Wc
open Option.some renaming inj → Wd
open Nat renaming le_of_ble_eq_true → We
open Nat renaming succ_pos → Wf
open Bool renaming eq_false_or_eq_true → Wg
open List renaming length_map → Wh
set_option maxHeartbeats 4000000

theorem mixed : Try.prog.follows .mixedOrders = true := by kernel_rfl
def eqTab : EqTab := [(3, 1, []), (40, 3, [(0, 1, false, 3), (1, 1, false, 3)])]
theorem eqTab_ok : eqTabOk Try.prog eqTab = true := by kernel_rfl
theorem eqg_40 : Try.prog.eqGuardType Try.prog.depth 40 = false := by kernel_rfl

theorem F_draw_New_ok {p0 : List Int} {r : T_draw_Codes} (hF : F_draw_New p0 = some r) (low : List AObj) {n : Nat} (hn : low.length = n) :
    Zh Try.prog 23 [.vs 1 (Wa (Wb .u8) p0)] low fun x low' => x = .ptr (n + 0) 0 0 0 ∧ low' = low ++ [⟨88, 2, [.agg [.vs 1 (Wa (Wb .u8) r.l), .int .i64 r.at_]], 0⟩] := by
 refine Xr (nt := 10) (rs := [.tmp 2]) Try.func23 rfl rfl (We rfl) rfl ?_
 refine Vs (Q' := FnE (fun E' lw lc => Xz E' lw lc [(2, .ptr (n + 0) 0 0 0)] low [⟨88, 2, [.agg [.vs 1 (Wa (Wb .u8) r.l), .int .i64 r.at_]], 0⟩])) ?_ ?_
 ·unfold F_draw_New at hF
  refine Vf ?_
  refine Vd ?_
  refine Va (rd_asQ rfl) rfl ?_
  refine Ve ?_
  refine Vf ?_
  refine Vd ?_
  obtain ⟨x1, h2, hF⟩ := Yf hF
  refine Va (Xw rfl) rfl ?_
  refine Va (Xw rfl) rfl ?_
  refine Va (Xo (Yu rfl rfl te_22) (congrArg (fun n : Nat => Wb .i64 (n : Int)) (Wh _))) rfl ?_
  refine Va (rd_min rfl rfl) rfl ?_
  refine Va (rd_slV rfl te_22 ts_5 rfl ⟨_, rfl⟩ h2) rfl ?_
  refine Va (Ye (vs := [(0, .vs 1 (Wa (Wb .u8) x1))]) (ds := [.vs 1 (Wa (Wb .u8) x1), .int .i64 0]) tz_88 rfl rfl tp_88 ⟨rfl, rfl, trivial⟩ (Yh rfl) rfl) rfl ?_
  refine Vi (Zx hn rfl (v := .agg [.vs 1 (Wa (Wb .u8) x1), .int .i64 0]) rfl rfl (Wf _) rfl rfl) rfl ?_
  refine Va (rd_asP rfl) rfl ?_
  refine Ve ?_
  refine Yb ?_
  obtain rfl := Wd hF
  refine fnR ?_
  exact Vp ⟨rfl, trivial⟩
 ·rintro _ _ _ _ ⟨he, hw⟩
  refine ⟨_, _, _, hw, ?_⟩
  exact bodyQ_all he [.ptr (n + 0) 0 0 0] ⟨rfl, trivial⟩ ⟨rfl, rfl⟩

theorem F_draw_Codes_Next_ok0 {p0 : T_draw_Codes} {p1 : Int} {r : T_draw_Codes × Int} (hF : F_draw_Codes_Next p0 p1 = some r) {low0 : List AObj} {q0 w0 : Nat} (hB : Bor low0 [q0]) {n : Nat} (hn : low0.length = n) :
    Zh Try.prog 27 [.ptr q0 w0 0 0, .int .i64 p1] (setL low0 [(q0, ⟨88, 2, [.agg [.vs 1 (Wa (Wb .u8) p0.l), .int .i64 p0.at_]], w0⟩)]) fun x low' => x = .int .i64 r.2 ∧ low' = setL low0 [(q0, ⟨88, 2, [.agg [.vs 1 (Wa (Wb .u8) r.1.l), .int .i64 r.1.at_]], w0⟩)] ++ [] := by
 refine Xr (nt := 77) (rs := [.tmp 4]) Try.func27 rfl rfl (We rfl) rfl ?_
 have hq0 : q0 < n := hB.ltN hn 0 rfl
 refine Vs (Q' := FnE (fun E' lw lc => Xz E' lw lc [(4, .int .i64 r.2)] (setL low0 [(q0, ⟨88, 2, [.agg [.vs 1 (Wa (Wb .u8) r.1.l), .int .i64 r.1.at_]], w0⟩)]) [])) ?_ ?_
 ·unfold F_draw_Codes_Next at hF
  refine Vf ?_
  refine Vd ?_
  refine Va (Xv rfl) rfl ?_
  refine Ve ?_
  refine Vf ?_
  refine Vf ?_
  obtain ⟨o1, ho1, hF⟩ := Yf hF
  refine Vs (Q' := (fun o1 => OnlyE .normal (fun E' lw lc => Xz E' lw lc [(0, .ptr q0 w0 0 0), (1, .int .i64 p1), (19, .bool o1)] (setL low0 [(q0, ⟨88, 2, [.agg [.vs 1 (Wa (Wb .u8) p0.l), .int .i64 p0.at_]], w0⟩)]) [])) o1) ?_ ?_
  ·replace hF := ho1
   rcases Wg (decide (p1 < 1)) with c2 | c2
   ·have hF := Yq c2 hF
    refine Zy [[], [0], [0, 1], [0, 1, 2], [0, 1, 2, 3], [0, 1, 2, 3, 4], [0, 1, 2, 3, 4, 5], [0, 1, 2], [0, 1, 2, 7], [0, 1, 2, 7, 8], [0, 1, 2, 7, 8, 9], [0, 1, 2, 7, 8, 9, 10], [0, 1, 2, 3, 4, 5, 6, 7, 8, 9, 10, 11], [0, 1, 2, 3, 4, 5, 6, 7, 8, 9, 10, 11, 12]] mixed (by kernel_rfl) rfl ?_
    refine Yd rfl rfl (Vk rfl) ?_
    refine Yd rfl rfl (Yz rfl rfl) ?_
    refine Yd rfl rfl (Vr rfl) ?_
    refine Zg rfl rfl rfl (neT c2) ?_
    refine Zg rfl rfl rfl (neT c2) ?_
    refine Zg rfl rfl rfl (neT c2) ?_
    refine Zg rfl rfl rfl (neT c2) ?_
    refine Zg rfl rfl rfl (neT c2) ?_
    refine Zg rfl rfl rfl (neT c2) ?_
    refine Zg rfl rfl rfl (neT c2) ?_
    refine Zg rfl rfl rfl (neT c2) ?_
    refine Zg rfl rfl rfl (neT c2) ?_
    refine Zg rfl rfl rfl (neT c2) ?_
    refine Yd rfl rfl (Xc (congrArg Wc c2) rfl) ?_
    refine Yx ?_
    obtain rfl := Wd hF
    refine Xk ?_
    exact Vp ⟨rfl, rfl, rfl, trivial⟩
   ·have hF := Yr c2 hF
    refine Zy [[], [0], [0, 1], [0, 1, 2], [0, 1, 2, 3], [0, 1, 2, 3, 4], [0, 1, 2, 3, 4, 5], [0, 1, 2], [0, 1, 2, 7], [0, 1, 2, 7, 8], [0, 1, 2, 7, 8, 9], [0, 1, 2, 7, 8, 9, 10], [0, 1, 2, 3, 4, 5, 6, 7, 8, 9, 10, 11], [0, 1, 2, 3, 4, 5, 6, 7, 8, 9, 10, 11, 12]] mixed (by kernel_rfl) rfl ?_
    refine Yd rfl rfl (Vk rfl) ?_
    refine Yd rfl rfl (Yz rfl rfl) ?_
    refine Yd rfl rfl (Vr rfl) ?_
    refine dt1 rfl rfl rfl rfl c2 (Xg rfl) ?_
    refine dt1 rfl rfl rfl rfl c2 (Yp rfl) ?_
    refine dt1 rfl rfl rfl rfl c2 (Vb rfl tf_88_1 ts_3 (by decide)) ?_
    refine dt1 rfl rfl rfl rfl c2 (Vj rfl (Ys hB rfl 0 rfl) rfl ta_3 rfl) ?_
    refine dt1 rfl rfl rfl rfl c2 (Xg rfl) ?_
    refine dt1 rfl rfl rfl rfl c2 (Yp rfl) ?_
    refine dt1 rfl rfl rfl rfl c2 (Vb rfl tf_88_0 ts_22 (by decide)) ?_
    refine dt1 rfl rfl rfl rfl c2 (Vj rfl (Ys hB rfl 0 rfl) rfl ta_22 rfl) ?_
    refine dt1 rfl rfl rfl rfl c2 (Xo (Yu rfl rfl te_22) (congrArg (fun n : Nat => Wb .i64 (n : Int)) (Wh _))) ?_
    refine dt1 rfl rfl rfl rfl c2 (rd_geq rfl rfl) ?_
    refine Yd rfl rfl (Vy (congrArg Wc c2) rfl) ?_
    refine Yx ?_
    obtain rfl := Wd hF
    refine Xk ?_
    exact Vp ⟨rfl, rfl, rfl, trivial⟩
  ·rintro _ _ _ _ ⟨rfl, hw⟩
   refine ⟨_, _, _, hw, ?_⟩
   refine Xi rfl (fun c3 => ?_) (fun c3 => ?_)
   ·have hF := Yq c3 hF
    refine Vf ?_
    refine Vd ?_
    refine Va (Xv rfl) rfl ?_
    refine Ve ?_
    refine Yb ?_
    obtain rfl := Wd hF
    refine fnR ?_
    exact Vp ⟨rfl, trivial⟩
   ·have hF := Yr c3 hF
    refine Xj ?_
    refine Vf ?_
    refine Vd ?_
    refine Va (Xg rfl) rfl ?_
    refine Va (Yp rfl) rfl ?_
    refine Va (Vb rfl tf_88_1 ts_3 (by decide)) rfl ?_
    refine Va (Vj rfl (Ys hB rfl 0 rfl) rfl ta_3 rfl) rfl ?_
    refine Va (Zf rfl rfl rfl) rfl ?_
    refine Va (Yp rfl) rfl ?_
    refine Va (Vb rfl tf_88_1 ts_3 (by decide)) rfl ?_
    refine Vi (Vw (p := .int .i64 (IntKind.i64.wrap (p0.at_ + 1))) (e' := .agg [.vs 1 (Wa (Wb .u8) p0.l), .int .i64 (IntKind.i64.wrap (p0.at_ + 1))]) rfl (Ys hB rfl 0 rfl) rfl rfl ts_3 rfl (Yg rfl) rfl (We rfl) rfl (setO_B hB rfl 0 rfl (Yo hn ⟨Vo ⟨.vs _ _, .int _ _, trivial⟩, trivial⟩) rfl)) rfl ?_
    refine Ve ?_
    refine Vf ?_
    obtain ⟨x4, h5, hF⟩ := Yf hF
    refine Zy [[], [0], [0, 1], [0, 1, 2], [], [4], [4, 5], [4, 5, 6], [4, 5, 6, 7], [0, 1, 2, 3, 4, 5, 6, 7, 8], [0, 1, 2, 3, 4, 5, 6, 7, 8, 9], [0, 1, 2, 3, 4, 5, 6, 7, 8, 9, 10], [0, 1, 2, 3, 4, 5, 6, 7, 8, 9, 10, 11]] mixed (by kernel_rfl) rfl ?_
    refine Yd rfl rfl (Xg rfl) ?_
    refine Yd rfl rfl (Yp rfl) ?_
    refine Yd rfl rfl (Vb rfl tf_88_0 ts_22 (by decide)) ?_
    refine Yd rfl rfl (Vj rfl (Ys hB rfl 0 rfl) rfl ta_22 rfl) ?_
    refine Yd rfl rfl (Xg rfl) ?_
    refine Yd rfl rfl (Yp rfl) ?_
    refine Yd rfl rfl (Vb rfl tf_88_1 ts_3 (by decide)) ?_
    refine Yd rfl rfl (Vj rfl (Ys hB rfl 0 rfl) rfl ta_3 rfl) ?_
    refine Yd rfl rfl (Zp rfl rfl rfl) ?_
    refine Yd rfl rfl (Xo (Xu rfl rfl h5 te_22 ts_5) (v' := .vptr [.int .u8 x4] 0) rfl) ?_
    refine Yd rfl rfl (Xe rfl ta_5 rfl) ?_
    refine Yd rfl rfl (rd_conv rfl us_5 ti_3 rfl) ?_
    refine Yd rfl rfl (Xv rfl) ?_
    refine Yx ?_
    refine Vf ?_
    refine Vf ?_
    obtain ⟨o6, ho6, hF⟩ := Yf hF
    refine Vs (Q' := (fun o6 => OnlyE .normal (fun E' lw lc => Xz E' lw lc [(0, .ptr q0 w0 0 0), (1, .int .i64 p1), (5, .int .i64 (IntKind.i64.wrap x4)), (52, .bool o6)] (setL low0 [(q0, ⟨88, 2, [.agg [.vs 1 (Wa (Wb .u8) p0.l), .int .i64 (IntKind.i64.wrap (p0.at_ + 1))]], w0⟩)]) [])) o6) ?_ ?_
    ·replace hF := ho6
     rcases Wg (decide (256 < p1)) with c7 | c7
     ·have hF := Yq c7 hF
      refine Zy [[], [0], [0, 1], [0, 1, 2], [0, 1, 2, 3], [0, 1, 2, 3, 4], [0, 1, 2, 3, 4, 5], [0, 1, 2], [0, 1, 2, 7], [0, 1, 2, 7, 8], [0, 1, 2, 7, 8, 9], [0, 1, 2, 7, 8, 9, 10], [0, 1, 2, 3, 4, 5, 6, 7, 8, 9, 10, 11], [0, 1, 2, 3, 4, 5, 6, 7, 8, 9, 10, 11, 12]] mixed (by kernel_rfl) rfl ?_
      refine Yd rfl rfl (Vk rfl) ?_
      refine Yd rfl rfl (Zq rfl rfl) ?_
      refine Yd rfl rfl (Vr rfl) ?_
      refine dt1 rfl rfl rfl rfl c7 (Xg rfl) ?_
      refine dt1 rfl rfl rfl rfl c7 (Yp rfl) ?_
      refine dt1 rfl rfl rfl rfl c7 (Vb rfl tf_88_1 ts_3 (by decide)) ?_
      refine dt1 rfl rfl rfl rfl c7 (Vj rfl (Ys hB rfl 0 rfl) rfl ta_3 rfl) ?_
      refine dt1 rfl rfl rfl rfl c7 (Xg rfl) ?_
      refine dt1 rfl rfl rfl rfl c7 (Yp rfl) ?_
      refine dt1 rfl rfl rfl rfl c7 (Vb rfl tf_88_0 ts_22 (by decide)) ?_
      refine dt1 rfl rfl rfl rfl c7 (Vj rfl (Ys hB rfl 0 rfl) rfl ta_22 rfl) ?_
      refine dt1 rfl rfl rfl rfl c7 (Xo (Yu rfl rfl te_22) (congrArg (fun n : Nat => Wb .i64 (n : Int)) (Wh _))) ?_
      refine dt1 rfl rfl rfl rfl c7 (Yz rfl rfl) ?_
      refine Yd rfl rfl (Xc (congrArg Wc c7) rfl) ?_
      refine Yx ?_
      obtain rfl := Wd hF
      refine Xk ?_
      exact Vp ⟨rfl, rfl, rfl, rfl, trivial⟩
     ·have hF := Yr c7 hF
      refine Zy [[], [0], [0, 1], [0, 1, 2], [0, 1, 2, 3], [0, 1, 2, 3, 4], [0, 1, 2, 3, 4, 5], [0, 1, 2], [0, 1, 2, 7], [0, 1, 2, 7, 8], [0, 1, 2, 7, 8, 9], [0, 1, 2, 7, 8, 9, 10], [0, 1, 2, 3, 4, 5, 6, 7, 8, 9, 10, 11], [0, 1, 2, 3, 4, 5, 6, 7, 8, 9, 10, 11, 12]] mixed (by kernel_rfl) rfl ?_
      refine Yd rfl rfl (Vk rfl) ?_
      refine Yd rfl rfl (Zq rfl rfl) ?_
      refine Yd rfl rfl (Vr rfl) ?_
      refine Zg rfl rfl rfl (Ze c7) ?_
      refine Zg rfl rfl rfl (Ze c7) ?_
      refine Zg rfl rfl rfl (Ze c7) ?_
      refine Zg rfl rfl rfl (Ze c7) ?_
      refine Zg rfl rfl rfl (Ze c7) ?_
      refine Zg rfl rfl rfl (Ze c7) ?_
      refine Zg rfl rfl rfl (Ze c7) ?_
      refine Zg rfl rfl rfl (Ze c7) ?_
      refine Zg rfl rfl rfl (Ze c7) ?_
      refine Zg rfl rfl rfl (Ze c7) ?_
      refine Yd rfl rfl (Vy (congrArg Wc c7) rfl) ?_
      refine Yx ?_
      obtain rfl := Wd hF
      refine Xk ?_
      exact Vp ⟨rfl, rfl, rfl, rfl, trivial⟩
    ·rintro _ _ _ _ ⟨rfl, hw⟩
     refine ⟨_, _, _, hw, ?_⟩
     obtain ⟨o8, ho8, hF⟩ := Yf hF
     refine Vs (Q' := (fun o8 => OnlyE .normal (fun E' lw lc => Xz E' lw lc [(1, .int .i64 p1), (5, .int .i64 o8.1)] (setL low0 [(q0, ⟨88, 2, [.agg [.vs 1 (Wa (Wb .u8) p0.l), .int .i64 o8.2]], w0⟩)]) [])) o8) ?_ ?_
     ·replace hF := ho8
      refine Xi rfl (fun c9 => ?_) (fun c9 => ?_)
      ·have hF := Yq c9 hF
       refine Vf ?_
       obtain ⟨x10, h11, hF⟩ := Yf hF
       refine Zy [[], [0], [], [2], [2, 3], [2, 3, 4], [], [6], [6, 7], [6, 7, 8], [2, 3, 4, 5, 6, 7, 8, 9], [2, 3, 4, 5, 6, 7, 8, 9, 10], [2, 3, 4, 5, 6, 7, 8, 9, 10, 11], [0, 1, 2, 3, 4, 5, 6, 7, 8, 9, 10, 11, 12], [0, 1, 2, 3, 4, 5, 6, 7, 8, 9, 10, 11, 12, 13]] mixed (by kernel_rfl) rfl ?_
       refine Yd rfl rfl (Vk rfl) ?_
       refine Yd rfl rfl (rd_mul rfl rfl rfl) ?_
       refine Yd rfl rfl (Xg rfl) ?_
       refine Yd rfl rfl (Yp rfl) ?_
       refine Yd rfl rfl (Vb rfl tf_88_0 ts_22 (by decide)) ?_
       refine Yd rfl rfl (Vj rfl (Ys hB rfl 0 rfl) rfl ta_22 rfl) ?_
       refine Yd rfl rfl (Xg rfl) ?_
       refine Yd rfl rfl (Yp rfl) ?_
       refine Yd rfl rfl (Vb rfl tf_88_1 ts_3 (by decide)) ?_
       refine Yd rfl rfl (Vj rfl (Ys hB rfl 0 rfl) rfl ta_3 rfl) ?_
       refine Yd rfl rfl (Xo (Xu rfl rfl h11 te_22 ts_5) (v' := .vptr [.int .u8 x10] 0) rfl) ?_
       refine Yd rfl rfl (Xe rfl ta_5 rfl) ?_
       refine Yd rfl rfl (rd_conv rfl us_5 ti_3 rfl) ?_
       refine Yd rfl rfl (Zf rfl rfl rfl) ?_
       refine Yd rfl rfl (Xv rfl) ?_
       refine Yx ?_
       refine Vd ?_
       refine Va (Xg rfl) rfl ?_
       refine Va (Yp rfl) rfl ?_
       refine Va (Vb rfl tf_88_1 ts_3 (by decide)) rfl ?_
       refine Va (Vj rfl (Ys hB rfl 0 rfl) rfl ta_3 rfl) rfl ?_
       refine Va (Zf rfl rfl rfl) rfl ?_
       refine Va (Yp rfl) rfl ?_
       refine Va (Vb rfl tf_88_1 ts_3 (by decide)) rfl ?_
       refine Vi (Vw (p := .int .i64 (IntKind.i64.wrap ((IntKind.i64.wrap (p0.at_ + 1)) + 1))) (e' := .agg [.vs 1 (Wa (Wb .u8) p0.l), .int .i64 (IntKind.i64.wrap ((IntKind.i64.wrap (p0.at_ + 1)) + 1))]) rfl (Ys hB rfl 0 rfl) rfl rfl ts_3 rfl (Yg rfl) rfl (We rfl) rfl (setO_B hB rfl 0 rfl (Yo hn ⟨Vo ⟨.vs _ _, .int _ _, trivial⟩, trivial⟩) rfl)) rfl ?_
       refine Ve ?_
       obtain rfl := Wd hF
       refine Xk ?_
       exact Vp ⟨rfl, rfl, trivial⟩
      ·have hF := Yr c9 hF
       refine Xj ?_
       obtain rfl := Wd hF
       refine Xk ?_
       exact Vp ⟨rfl, rfl, trivial⟩
     ·rintro _ _ _ _ ⟨rfl, hw⟩
      refine ⟨_, _, _, hw, ?_⟩
      refine Vf ?_
      refine Vd ?_
      obtain ⟨x12, h13, hF⟩ := Yf hF
      refine Va (Vk rfl) rfl ?_
      refine Va (Vk rfl) rfl ?_
      refine Va (rd_rem rfl rfl (remI_some h13).1 (remI_some h13).2) rfl ?_
      refine Va (Xv rfl) rfl ?_
      refine Ve ?_
      refine Yb ?_
      obtain rfl := Wd hF
      refine fnR ?_
      exact Vp ⟨rfl, trivial⟩
 ·rintro _ _ _ _ ⟨he, hw⟩
  refine ⟨_, _, _, hw, ?_⟩
  exact Zc he [.int .i64 r.2] ⟨rfl, trivial⟩ (.int _ _) ⟨rfl, (List.append_nil _).symm⟩

theorem F_draw_Codes_Next_ok {p0 : T_draw_Codes} {p1 : Int} {r : T_draw_Codes × Int} (hF : F_draw_Codes_Next p0 p1 = some r) {low : List AObj} {q0 w0 : Nat} (hnd : [q0].Nodup) (hq0 : low[q0]? = some ⟨88, 2, [.agg [.vs 1 (Wa (Wb .u8) p0.l), .int .i64 p0.at_]], w0⟩) {n : Nat} (hn : low.length = n) :
    Zh Try.prog 27 [.ptr q0 w0 0 0, .int .i64 p1] low fun x low' => x = .int .i64 r.2 ∧ low' = setL low [(q0, ⟨88, 2, [.agg [.vs 1 (Wa (Wb .u8) r.1.l), .int .i64 r.1.at_]], w0⟩)] ++ [] := by
  obtain ⟨h1, h2⟩ := bor_start (ps := [(q0, ⟨88, 2, [.agg [.vs 1 (Wa (Wb .u8) p0.l), .int .i64 p0.at_]], w0⟩)]) hnd (borC hq0 bor0)
  exact Zz h1 (F_draw_Codes_Next_ok0 hF h2 hn)

theorem F_draw_Codes_One_ok0 {p0 : T_draw_Codes} {p1 : Int} {r : T_draw_Codes × Bool} (hF : F_draw_Codes_One p0 p1 = some r) {low0 : List AObj} {q0 w0 : Nat} (hB : Bor low0 [q0]) {n : Nat} (hn : low0.length = n) :
    Zh Try.prog 25 [.ptr q0 w0 0 0, .int .i64 p1] (setL low0 [(q0, ⟨88, 2, [.agg [.vs 1 (Wa (Wb .u8) p0.l), .int .i64 p0.at_]], w0⟩)]) fun x low' => x = .bool r.2 ∧ low' = setL low0 [(q0, ⟨88, 2, [.agg [.vs 1 (Wa (Wb .u8) r.1.l), .int .i64 r.1.at_]], w0⟩)] ++ [] := by
 refine Xr (nt := 11) (rs := [.tmp 4]) Try.func25 rfl rfl (We rfl) rfl ?_
 have hq0 : q0 < n := hB.ltN hn 0 rfl
 refine Vs (Q' := FnE (fun E' lw lc => Xz E' lw lc [(4, .bool r.2)] (setL low0 [(q0, ⟨88, 2, [.agg [.vs 1 (Wa (Wb .u8) r.1.l), .int .i64 r.1.at_]], w0⟩)]) [])) ?_ ?_
 ·unfold F_draw_Codes_One at hF
  refine Vf ?_
  refine Vd ?_
  refine Va (Zi rfl) rfl ?_
  refine Ve ?_
  refine Vf ?_
  refine Vd ?_
  obtain ⟨x1, h2, hF⟩ := Yf hF
  refine Va (Xg rfl) rfl ?_
  refine Va (Vk rfl) rfl ?_
  refine Vi (Vz (ps := [(q0, ⟨88, 2, [.agg [.vs 1 (Wa (Wb .u8) x1.1.l), .int .i64 x1.1.at_]], w0⟩)]) (r := .int .i64 x1.2) (os := []) (low1 := (setL low0 [(q0, ⟨88, 2, [.agg [.vs 1 (Wa (Wb .u8) x1.1.l), .int .i64 x1.1.at_]], w0⟩)])) (loc1 := []) (loc2 := []) rfl Try.call27 (F_draw_Codes_Next_ok h2 (nd1 na0 nd0) (Zb hB rfl 0 rfl) (Xs (Vl hn) rfl)) (Yk (ps0' := [(q0, ⟨88, 2, [.agg [.vs 1 (Wa (Wb .u8) x1.1.l), .int .i64 x1.1.at_]], w0⟩)]) hB rfl 0 rfl (Yo hn ⟨Vo ⟨.vs _ _, .int _ _, trivial⟩, trivial⟩) rfl Xf) rfl) rfl ?_
  refine Va (Vk rfl) rfl ?_
  refine Va (Zp rfl rfl rfl) rfl ?_
  refine Va (Zk rfl rfl) rfl ?_
  refine Va (Zi rfl) rfl ?_
  refine Ve ?_
  refine Yb ?_
  obtain rfl := Wd hF
  refine fnR ?_
  exact Vp ⟨rfl, trivial⟩
 ·rintro _ _ _ _ ⟨he, hw⟩
  refine ⟨_, _, _, hw, ?_⟩
  exact Zc he [.bool r.2] ⟨rfl, trivial⟩ (.bool _) ⟨rfl, (List.append_nil _).symm⟩

theorem F_draw_Codes_One_ok {p0 : T_draw_Codes} {p1 : Int} {r : T_draw_Codes × Bool} (hF : F_draw_Codes_One p0 p1 = some r) {low : List AObj} {q0 w0 : Nat} (hnd : [q0].Nodup) (hq0 : low[q0]? = some ⟨88, 2, [.agg [.vs 1 (Wa (Wb .u8) p0.l), .int .i64 p0.at_]], w0⟩) {n : Nat} (hn : low.length = n) :
    Zh Try.prog 25 [.ptr q0 w0 0 0, .int .i64 p1] low fun x low' => x = .bool r.2 ∧ low' = setL low [(q0, ⟨88, 2, [.agg [.vs 1 (Wa (Wb .u8) r.1.l), .int .i64 r.1.at_]], w0⟩)] ++ [] := by
  obtain ⟨h1, h2⟩ := bor_start (ps := [(q0, ⟨88, 2, [.agg [.vs 1 (Wa (Wb .u8) p0.l), .int .i64 p0.at_]], w0⟩)]) hnd (borC hq0 bor0)
  exact Zz h1 (F_draw_Codes_One_ok0 hF h2 hn)

theorem F_draw_Codes_Range_ok0 {p0 : T_draw_Codes} {p1 : Int} {p2 : Int} {r : T_draw_Codes × Int} (hF : F_draw_Codes_Range p0 p1 p2 = some r) {low0 : List AObj} {q0 w0 : Nat} (hB : Bor low0 [q0]) {n : Nat} (hn : low0.length = n) :
    Zh Try.prog 28 [.ptr q0 w0 0 0, .int .i64 p1, .int .i64 p2] (setL low0 [(q0, ⟨88, 2, [.agg [.vs 1 (Wa (Wb .u8) p0.l), .int .i64 p0.at_]], w0⟩)]) fun x low' => x = .int .i64 r.2 ∧ low' = setL low0 [(q0, ⟨88, 2, [.agg [.vs 1 (Wa (Wb .u8) r.1.l), .int .i64 r.1.at_]], w0⟩)] ++ [] := by
 refine Xr (nt := 15) (rs := [.tmp 6]) Try.func28 rfl rfl (We rfl) rfl ?_
 have hq0 : q0 < n := hB.ltN hn 0 rfl
 refine Vs (Q' := FnE (fun E' lw lc => Xz E' lw lc [(6, .int .i64 r.2)] (setL low0 [(q0, ⟨88, 2, [.agg [.vs 1 (Wa (Wb .u8) r.1.l), .int .i64 r.1.at_]], w0⟩)]) [])) ?_ ?_
 ·unfold F_draw_Codes_Range at hF
  refine Vf ?_
  refine Vd ?_
  refine Va (Xv rfl) rfl ?_
  refine Ve ?_
  refine Vf ?_
  refine Vd ?_
  obtain ⟨x1, h2, hF⟩ := Yf hF
  refine Va (Vk rfl) rfl ?_
  refine Va (Xg rfl) rfl ?_
  refine Va (Vk rfl) rfl ?_
  refine Va (Vk rfl) rfl ?_
  refine Va (Zp rfl rfl rfl) rfl ?_
  refine Va (Zf rfl rfl rfl) rfl ?_
  refine Vi (Vz (ps := [(q0, ⟨88, 2, [.agg [.vs 1 (Wa (Wb .u8) x1.1.l), .int .i64 x1.1.at_]], w0⟩)]) (r := .int .i64 x1.2) (os := []) (low1 := (setL low0 [(q0, ⟨88, 2, [.agg [.vs 1 (Wa (Wb .u8) x1.1.l), .int .i64 x1.1.at_]], w0⟩)])) (loc1 := []) (loc2 := []) rfl Try.call27 (F_draw_Codes_Next_ok h2 (nd1 na0 nd0) (Zb hB rfl 0 rfl) (Xs (Vl hn) rfl)) (Yk (ps0' := [(q0, ⟨88, 2, [.agg [.vs 1 (Wa (Wb .u8) x1.1.l), .int .i64 x1.1.at_]], w0⟩)]) hB rfl 0 rfl (Yo hn ⟨Vo ⟨.vs _ _, .int _ _, trivial⟩, trivial⟩) rfl Xf) rfl) rfl ?_
  refine Va (Zf rfl rfl rfl) rfl ?_
  refine Va (Xv rfl) rfl ?_
  refine Ve ?_
  refine Yb ?_
  obtain rfl := Wd hF
  refine fnR ?_
  exact Vp ⟨rfl, trivial⟩
 ·rintro _ _ _ _ ⟨he, hw⟩
  refine ⟨_, _, _, hw, ?_⟩
  exact Zc he [.int .i64 r.2] ⟨rfl, trivial⟩ (.int _ _) ⟨rfl, (List.append_nil _).symm⟩

theorem F_draw_Codes_Range_ok {p0 : T_draw_Codes} {p1 : Int} {p2 : Int} {r : T_draw_Codes × Int} (hF : F_draw_Codes_Range p0 p1 p2 = some r) {low : List AObj} {q0 w0 : Nat} (hnd : [q0].Nodup) (hq0 : low[q0]? = some ⟨88, 2, [.agg [.vs 1 (Wa (Wb .u8) p0.l), .int .i64 p0.at_]], w0⟩) {n : Nat} (hn : low.length = n) :
    Zh Try.prog 28 [.ptr q0 w0 0 0, .int .i64 p1, .int .i64 p2] low fun x low' => x = .int .i64 r.2 ∧ low' = setL low [(q0, ⟨88, 2, [.agg [.vs 1 (Wa (Wb .u8) r.1.l), .int .i64 r.1.at_]], w0⟩)] ++ [] := by
  obtain ⟨h1, h2⟩ := bor_start (ps := [(q0, ⟨88, 2, [.agg [.vs 1 (Wa (Wb .u8) p0.l), .int .i64 p0.at_]], w0⟩)]) hnd (borC hq0 bor0)
  exact Zz h1 (F_draw_Codes_Range_ok0 hF h2 hn)

theorem F_draw_Codes_Road_ok0 {p0 : T_draw_Codes} {p1 : Int} {p2 : Int} {r : T_draw_Codes × T_Road} (hF : F_draw_Codes_Road p0 p1 p2 = some r) {low0 : List AObj} {q0 w0 : Nat} (hB : Bor low0 [q0]) {n : Nat} (hn : low0.length = n) :
    Zh Try.prog 37 [.ptr q0 w0 0 0, .int .i64 p1, .int .i64 p2] (setL low0 [(q0, ⟨88, 2, [.agg [.vs 1 (Wa (Wb .u8) p0.l), .int .i64 p0.at_]], w0⟩)]) fun x low' => x = .agg [.int .i64 r.2.From, .int .i64 r.2.To, .int .i64 r.2.Length, .int .i64 r.2.Area, .bool r.2.Walk, .bool r.2.Closed, .int .i64 r.2.Rest.Low, .int .i64 r.2.Rest.High, .int .i64 r.2.Lift.Low, .int .i64 r.2.Lift.High] ∧ low' = setL low0 [(q0, ⟨88, 2, [.agg [.vs 1 (Wa (Wb .u8) r.1.l), .int .i64 r.1.at_]], w0⟩)] ++ [] := by
 refine Xr (nt := 42) (rs := [.cell 6 46]) Try.func37 rfl rfl (We rfl) rfl ?_
 have hq0 : q0 < n := hB.ltN hn 0 rfl
 refine Vs (Q' := FnE (fun E' lw lc => Xz E' lw lc [(6, .ptr (n + 0) 0 0 0)] (setL low0 [(q0, ⟨88, 2, [.agg [.vs 1 (Wa (Wb .u8) r.1.l), .int .i64 r.1.at_]], w0⟩)]) [⟨46, 10, [.agg [.int .i64 r.2.From, .int .i64 r.2.To, .int .i64 r.2.Length, .int .i64 r.2.Area, .bool r.2.Walk, .bool r.2.Closed, .int .i64 r.2.Rest.Low, .int .i64 r.2.Rest.High, .int .i64 r.2.Lift.Low, .int .i64 r.2.Lift.High]], 0⟩])) ?_ ?_
 ·unfold F_draw_Codes_Road at hF
  refine Vf ?_
  refine Vd ?_
  refine Vi (Xm (Vl hn) rfl tz_46 rfl rfl (Wf _) rfl) rfl ?_
  refine Ve ?_
  refine Vf ?_
  refine Vd ?_
  obtain ⟨x1, h2, hF⟩ := Yf hF
  obtain ⟨x3, h4, hF⟩ := Yf hF
  obtain ⟨x5, h6, hF⟩ := Yf hF
  obtain ⟨x7, h8, hF⟩ := Yf hF
  refine Va (Vk rfl) rfl ?_
  refine Va (Vk rfl) rfl ?_
  refine Va (Xg rfl) rfl ?_
  refine Vi (Vz (ps := [(q0, ⟨88, 2, [.agg [.vs 1 (Wa (Wb .u8) x1.1.l), .int .i64 x1.1.at_]], w0⟩)]) (r := .int .i64 x1.2) (os := []) (low1 := (setL low0 [(q0, ⟨88, 2, [.agg [.vs 1 (Wa (Wb .u8) x1.1.l), .int .i64 x1.1.at_]], w0⟩)])) (loc1 := [⟨46, 10, [.agg [.int .i64 0, .int .i64 0, .int .i64 0, .int .i64 0, .bool false, .bool false, .int .i64 0, .int .i64 0, .int .i64 0, .int .i64 0]], 0⟩]) (loc2 := [⟨46, 10, [.agg [.int .i64 0, .int .i64 0, .int .i64 0, .int .i64 0, .bool false, .bool false, .int .i64 0, .int .i64 0, .int .i64 0, .int .i64 0]], 0⟩]) rfl Try.call28 (F_draw_Codes_Range_ok h2 (nd1 na0 nd0) (Zb hB rfl 0 rfl) (Xs (Vl hn) rfl)) (Yk (ps0' := [(q0, ⟨88, 2, [.agg [.vs 1 (Wa (Wb .u8) x1.1.l), .int .i64 x1.1.at_]], w0⟩)]) hB rfl 0 rfl (Yo hn ⟨Vo ⟨.vs _ _, .int _ _, trivial⟩, trivial⟩) rfl Xf) rfl) rfl ?_
  refine Va (Xg rfl) rfl ?_
  refine Vi (Vz (ps := [(q0, ⟨88, 2, [.agg [.vs 1 (Wa (Wb .u8) x3.1.l), .int .i64 x3.1.at_]], w0⟩)]) (r := .int .i64 x3.2) (os := []) (low1 := (setL low0 [(q0, ⟨88, 2, [.agg [.vs 1 (Wa (Wb .u8) x3.1.l), .int .i64 x3.1.at_]], w0⟩)])) (loc1 := [⟨46, 10, [.agg [.int .i64 0, .int .i64 0, .int .i64 0, .int .i64 0, .bool false, .bool false, .int .i64 0, .int .i64 0, .int .i64 0, .int .i64 0]], 0⟩]) (loc2 := [⟨46, 10, [.agg [.int .i64 0, .int .i64 0, .int .i64 0, .int .i64 0, .bool false, .bool false, .int .i64 0, .int .i64 0, .int .i64 0, .int .i64 0]], 0⟩]) rfl Try.call28 (F_draw_Codes_Range_ok h4 (nd1 na0 nd0) (Zb hB rfl 0 rfl) (Xs (Vl hn) rfl)) (Yk (ps0' := [(q0, ⟨88, 2, [.agg [.vs 1 (Wa (Wb .u8) x3.1.l), .int .i64 x3.1.at_]], w0⟩)]) hB rfl 0 rfl (Yo hn ⟨Vo ⟨.vs _ _, .int _ _, trivial⟩, trivial⟩) rfl Xf) rfl) rfl ?_
  refine Va (Xg rfl) rfl ?_
  refine Vi (Vz (ps := [(q0, ⟨88, 2, [.agg [.vs 1 (Wa (Wb .u8) x5.1.l), .int .i64 x5.1.at_]], w0⟩)]) (r := .int .i64 x5.2) (os := []) (low1 := (setL low0 [(q0, ⟨88, 2, [.agg [.vs 1 (Wa (Wb .u8) x5.1.l), .int .i64 x5.1.at_]], w0⟩)])) (loc1 := [⟨46, 10, [.agg [.int .i64 0, .int .i64 0, .int .i64 0, .int .i64 0, .bool false, .bool false, .int .i64 0, .int .i64 0, .int .i64 0, .int .i64 0]], 0⟩]) (loc2 := [⟨46, 10, [.agg [.int .i64 0, .int .i64 0, .int .i64 0, .int .i64 0, .bool false, .bool false, .int .i64 0, .int .i64 0, .int .i64 0, .int .i64 0]], 0⟩]) rfl Try.call27 (F_draw_Codes_Next_ok h6 (nd1 na0 nd0) (Zb hB rfl 0 rfl) (Xs (Vl hn) rfl)) (Yk (ps0' := [(q0, ⟨88, 2, [.agg [.vs 1 (Wa (Wb .u8) x5.1.l), .int .i64 x5.1.at_]], w0⟩)]) hB rfl 0 rfl (Yo hn ⟨Vo ⟨.vs _ _, .int _ _, trivial⟩, trivial⟩) rfl Xf) rfl) rfl ?_
  refine Va (Zq rfl rfl) rfl ?_
  refine Va (Xg rfl) rfl ?_
  refine Vi (Vz (ps := [(q0, ⟨88, 2, [.agg [.vs 1 (Wa (Wb .u8) x7.1.l), .int .i64 x7.1.at_]], w0⟩)]) (r := .int .i64 x7.2) (os := []) (low1 := (setL low0 [(q0, ⟨88, 2, [.agg [.vs 1 (Wa (Wb .u8) x7.1.l), .int .i64 x7.1.at_]], w0⟩)])) (loc1 := [⟨46, 10, [.agg [.int .i64 0, .int .i64 0, .int .i64 0, .int .i64 0, .bool false, .bool false, .int .i64 0, .int .i64 0, .int .i64 0, .int .i64 0]], 0⟩]) (loc2 := [⟨46, 10, [.agg [.int .i64 0, .int .i64 0, .int .i64 0, .int .i64 0, .bool false, .bool false, .int .i64 0, .int .i64 0, .int .i64 0, .int .i64 0]], 0⟩]) rfl Try.call28 (F_draw_Codes_Range_ok h8 (nd1 na0 nd0) (Zb hB rfl 0 rfl) (Xs (Vl hn) rfl)) (Yk (ps0' := [(q0, ⟨88, 2, [.agg [.vs 1 (Wa (Wb .u8) x7.1.l), .int .i64 x7.1.at_]], w0⟩)]) hB rfl 0 rfl (Yo hn ⟨Vo ⟨.vs _ _, .int _ _, trivial⟩, trivial⟩) rfl Xf) rfl) rfl ?_
  refine Va (Ye (vs := [(0, .int .i64 x7.2)]) (ds := [.int .i64 x7.2, .int .i64 0]) tz_44 rfl rfl tp_44 ⟨rfl, rfl, trivial⟩ (Yh rfl) rfl) rfl ?_
  refine Va (Ye (vs := [(0, .int .i64 p1), (1, .int .i64 p2), (2, .int .i64 x1.2), (3, .int .i64 x3.2), (4, .bool (decide (0 < x5.2))), (6, .agg [.int .i64 x7.2, .int .i64 0])]) (ds := [.int .i64 p1, .int .i64 p2, .int .i64 x1.2, .int .i64 x3.2, .bool (decide (0 < x5.2)), .bool false, .int .i64 x7.2, .int .i64 0, .int .i64 0, .int .i64 0]) tz_46 rfl rfl tp_46 ⟨rfl, rfl, rfl, rfl, rfl, rfl, rfl, rfl, rfl, rfl, rfl, rfl, trivial⟩ (Yh rfl) rfl) rfl ?_
  refine Vi (Xm (Vl hn) rfl tz_46 rfl rfl (Wf _) rfl) rfl ?_
  refine Vi (Vw (p := .agg [.int .i64 p1, .int .i64 p2, .int .i64 x1.2, .int .i64 x3.2, .bool (decide (0 < x5.2)), .bool false, .int .i64 x7.2, .int .i64 0, .int .i64 0, .int .i64 0]) (e' := .agg [.int .i64 p1, .int .i64 p2, .int .i64 x1.2, .int .i64 x3.2, .bool (decide (0 < x5.2)), .bool false, .int .i64 x7.2, .int .i64 0, .int .i64 0, .int .i64 0]) rfl (Vg (Vl hn) rfl) rfl rfl ts_46 rfl (Yg rfl) rfl (We rfl) rfl (Xn (Vl hn) rfl)) rfl ?_
  refine Ve ?_
  refine Vf ?_
  obtain ⟨x9, h10, hF⟩ := Yf hF
  refine Zn [[], [0], [0, 1], [], [3], [0, 1, 2, 3, 4], [0, 1, 2, 3, 4, 5], [0, 1, 2, 3, 4, 5, 6], [0, 1, 2, 3, 4, 5, 6, 7]] [false, false, false, false, true, false, false, false, true] [((setL low0 [(q0, ⟨88, 2, [.agg [.vs 1 (Wa (Wb .u8) x7.1.l), .int .i64 x7.1.at_]], w0⟩)]), [⟨46, 10, [.agg [.int .i64 0, .int .i64 0, .int .i64 0, .int .i64 0, .bool false, .bool false, .int .i64 0, .int .i64 0, .int .i64 0, .int .i64 0]], 0⟩, ⟨46, 10, [.agg [.int .i64 p1, .int .i64 p2, .int .i64 x1.2, .int .i64 x3.2, .bool (decide (0 < x5.2)), .bool false, .int .i64 x7.2, .int .i64 0, .int .i64 0, .int .i64 0]], 0⟩]), ((setL low0 [(q0, ⟨88, 2, [.agg [.vs 1 (Wa (Wb .u8) x9.1.l), .int .i64 x9.1.at_]], w0⟩)]), [⟨46, 10, [.agg [.int .i64 0, .int .i64 0, .int .i64 0, .int .i64 0, .bool false, .bool false, .int .i64 0, .int .i64 0, .int .i64 0, .int .i64 0]], 0⟩, ⟨46, 10, [.agg [.int .i64 p1, .int .i64 p2, .int .i64 x1.2, .int .i64 x3.2, .bool (decide (0 < x5.2)), .bool false, .int .i64 x7.2, .int .i64 0, .int .i64 0, .int .i64 0]], 0⟩]), ((setL low0 [(q0, ⟨88, 2, [.agg [.vs 1 (Wa (Wb .u8) x9.1.l), .int .i64 x9.1.at_]], w0⟩)]), [⟨46, 10, [.agg [.int .i64 0, .int .i64 0, .int .i64 0, .int .i64 0, .bool false, .bool false, .int .i64 0, .int .i64 0, .int .i64 0, .int .i64 0]], 0⟩, ⟨46, 10, [.agg [.int .i64 p1, .int .i64 p2, .int .i64 x1.2, .int .i64 x3.2, .bool (decide (0 < x5.2)), .bool false, .int .i64 x7.2, .int .i64 (IntKind.i64.wrap (x7.2 + x9.2)), .int .i64 0, .int .i64 0]], 0⟩])] mixed (by kernel_rfl) rfl (lenAll (Vv Xp (Vv Xp (Vv Xp Yw)))) rfl _ rfl rfl ?_
  refine Vx _ rfl rfl (Vv (VRd.ntl (Vb rfl tf_46_6 ts_44 (by decide))) (Vv (VRd.ntl (Vb rfl tf_46_6 ts_44 (by decide))) Yw)) ?_
  refine Vx _ rfl rfl (Vv (VRd.ntl (Vb rfl tf_44_0 ts_3 (by decide))) (Vv (VRd.ntl (Vb rfl tf_44_0 ts_3 (by decide))) Yw)) ?_
  refine Vx _ rfl rfl (Vv (VRd.ntl (Vj rfl (Vg (Vl hn) rfl) rfl ta_3 rfl)) (Vv (VRd.ntl (Vj rfl (Vg (Vl hn) rfl) rfl ta_3 rfl)) Yw)) ?_
  refine Yd rfl rfl (Xg rfl) ?_
  refine Ya rfl rfl rfl (Vz (ps := [(q0, ⟨88, 2, [.agg [.vs 1 (Wa (Wb .u8) x9.1.l), .int .i64 x9.1.at_]], w0⟩)]) (r := .int .i64 x9.2) (os := []) (low1 := (setL low0 [(q0, ⟨88, 2, [.agg [.vs 1 (Wa (Wb .u8) x9.1.l), .int .i64 x9.1.at_]], w0⟩)])) (loc1 := [⟨46, 10, [.agg [.int .i64 0, .int .i64 0, .int .i64 0, .int .i64 0, .bool false, .bool false, .int .i64 0, .int .i64 0, .int .i64 0, .int .i64 0]], 0⟩, ⟨46, 10, [.agg [.int .i64 p1, .int .i64 p2, .int .i64 x1.2, .int .i64 x3.2, .bool (decide (0 < x5.2)), .bool false, .int .i64 x7.2, .int .i64 0, .int .i64 0, .int .i64 0]], 0⟩]) (loc2 := [⟨46, 10, [.agg [.int .i64 0, .int .i64 0, .int .i64 0, .int .i64 0, .bool false, .bool false, .int .i64 0, .int .i64 0, .int .i64 0, .int .i64 0]], 0⟩, ⟨46, 10, [.agg [.int .i64 p1, .int .i64 p2, .int .i64 x1.2, .int .i64 x3.2, .bool (decide (0 < x5.2)), .bool false, .int .i64 x7.2, .int .i64 0, .int .i64 0, .int .i64 0]], 0⟩]) rfl Try.call27 (F_draw_Codes_Next_ok h10 (nd1 na0 nd0) (Zb hB rfl 0 rfl) (Xs (Vl hn) rfl)) (Yk (ps0' := [(q0, ⟨88, 2, [.agg [.vs 1 (Wa (Wb .u8) x9.1.l), .int .i64 x9.1.at_]], w0⟩)]) hB rfl 0 rfl (Yo hn ⟨Vo ⟨.vs _ _, .int _ _, trivial⟩, trivial⟩) rfl Xf) rfl) ?_
  refine Yd rfl rfl (Zf rfl rfl rfl) ?_
  refine Yd rfl rfl (Vb rfl tf_46_6 ts_44 (by decide)) ?_
  refine Yd rfl rfl (Vb rfl tf_44_1 ts_3 (by decide)) ?_
  refine Ya rfl rfl rfl (Vw (p := .int .i64 (IntKind.i64.wrap (x7.2 + x9.2))) (e' := .agg [.int .i64 p1, .int .i64 p2, .int .i64 x1.2, .int .i64 x3.2, .bool (decide (0 < x5.2)), .bool false, .int .i64 x7.2, .int .i64 (IntKind.i64.wrap (x7.2 + x9.2)), .int .i64 0, .int .i64 0]) rfl (Vg (Vl hn) rfl) rfl rfl ts_3 rfl (Yg rfl) rfl (We rfl) rfl (Xn (Vl hn) rfl)) ?_
  refine Yx ?_
  refine Vf ?_
  refine Vd ?_
  obtain ⟨x11, h12, hF⟩ := Yf hF
  refine Va (Xg rfl) rfl ?_
  refine Vi (Vz (ps := [(q0, ⟨88, 2, [.agg [.vs 1 (Wa (Wb .u8) x11.1.l), .int .i64 x11.1.at_]], w0⟩)]) (r := .int .i64 x11.2) (os := []) (low1 := (setL low0 [(q0, ⟨88, 2, [.agg [.vs 1 (Wa (Wb .u8) x11.1.l), .int .i64 x11.1.at_]], w0⟩)])) (loc1 := [⟨46, 10, [.agg [.int .i64 0, .int .i64 0, .int .i64 0, .int .i64 0, .bool false, .bool false, .int .i64 0, .int .i64 0, .int .i64 0, .int .i64 0]], 0⟩, ⟨46, 10, [.agg [.int .i64 p1, .int .i64 p2, .int .i64 x1.2, .int .i64 x3.2, .bool (decide (0 < x5.2)), .bool false, .int .i64 x7.2, .int .i64 (IntKind.i64.wrap (x7.2 + x9.2)), .int .i64 0, .int .i64 0]], 0⟩]) (loc2 := [⟨46, 10, [.agg [.int .i64 0, .int .i64 0, .int .i64 0, .int .i64 0, .bool false, .bool false, .int .i64 0, .int .i64 0, .int .i64 0, .int .i64 0]], 0⟩, ⟨46, 10, [.agg [.int .i64 p1, .int .i64 p2, .int .i64 x1.2, .int .i64 x3.2, .bool (decide (0 < x5.2)), .bool false, .int .i64 x7.2, .int .i64 (IntKind.i64.wrap (x7.2 + x9.2)), .int .i64 0, .int .i64 0]], 0⟩]) rfl Try.call28 (F_draw_Codes_Range_ok h12 (nd1 na0 nd0) (Zb hB rfl 0 rfl) (Xs (Vl hn) rfl)) (Yk (ps0' := [(q0, ⟨88, 2, [.agg [.vs 1 (Wa (Wb .u8) x11.1.l), .int .i64 x11.1.at_]], w0⟩)]) hB rfl 0 rfl (Yo hn ⟨Vo ⟨.vs _ _, .int _ _, trivial⟩, trivial⟩) rfl Xf) rfl) rfl ?_
  refine Va (Vb rfl tf_46_7 ts_44 (by decide)) rfl ?_
  refine Va (Vb rfl tf_44_0 ts_3 (by decide)) rfl ?_
  refine Vi (Vw (p := .int .i64 x11.2) (e' := .agg [.int .i64 p1, .int .i64 p2, .int .i64 x1.2, .int .i64 x3.2, .bool (decide (0 < x5.2)), .bool false, .int .i64 x7.2, .int .i64 (IntKind.i64.wrap (x7.2 + x9.2)), .int .i64 x11.2, .int .i64 0]) rfl (Vg (Vl hn) rfl) rfl rfl ts_3 rfl (Yg rfl) rfl (We rfl) rfl (Xn (Vl hn) rfl)) rfl ?_
  refine Ve ?_
  refine Vf ?_
  obtain ⟨x13, h14, hF⟩ := Yf hF
  refine Zn [[], [0], [0, 1], [], [3], [0, 1, 2, 3, 4], [0, 1, 2, 3, 4, 5], [0, 1, 2, 3, 4, 5, 6], [0, 1, 2, 3, 4, 5, 6, 7]] [false, false, false, false, true, false, false, false, true] [((setL low0 [(q0, ⟨88, 2, [.agg [.vs 1 (Wa (Wb .u8) x11.1.l), .int .i64 x11.1.at_]], w0⟩)]), [⟨46, 10, [.agg [.int .i64 0, .int .i64 0, .int .i64 0, .int .i64 0, .bool false, .bool false, .int .i64 0, .int .i64 0, .int .i64 0, .int .i64 0]], 0⟩, ⟨46, 10, [.agg [.int .i64 p1, .int .i64 p2, .int .i64 x1.2, .int .i64 x3.2, .bool (decide (0 < x5.2)), .bool false, .int .i64 x7.2, .int .i64 (IntKind.i64.wrap (x7.2 + x9.2)), .int .i64 x11.2, .int .i64 0]], 0⟩]), ((setL low0 [(q0, ⟨88, 2, [.agg [.vs 1 (Wa (Wb .u8) x13.1.l), .int .i64 x13.1.at_]], w0⟩)]), [⟨46, 10, [.agg [.int .i64 0, .int .i64 0, .int .i64 0, .int .i64 0, .bool false, .bool false, .int .i64 0, .int .i64 0, .int .i64 0, .int .i64 0]], 0⟩, ⟨46, 10, [.agg [.int .i64 p1, .int .i64 p2, .int .i64 x1.2, .int .i64 x3.2, .bool (decide (0 < x5.2)), .bool false, .int .i64 x7.2, .int .i64 (IntKind.i64.wrap (x7.2 + x9.2)), .int .i64 x11.2, .int .i64 0]], 0⟩]), ((setL low0 [(q0, ⟨88, 2, [.agg [.vs 1 (Wa (Wb .u8) x13.1.l), .int .i64 x13.1.at_]], w0⟩)]), [⟨46, 10, [.agg [.int .i64 0, .int .i64 0, .int .i64 0, .int .i64 0, .bool false, .bool false, .int .i64 0, .int .i64 0, .int .i64 0, .int .i64 0]], 0⟩, ⟨46, 10, [.agg [.int .i64 p1, .int .i64 p2, .int .i64 x1.2, .int .i64 x3.2, .bool (decide (0 < x5.2)), .bool false, .int .i64 x7.2, .int .i64 (IntKind.i64.wrap (x7.2 + x9.2)), .int .i64 x11.2, .int .i64 (IntKind.i64.wrap (x11.2 + x13.2))]], 0⟩])] mixed (by kernel_rfl) rfl (lenAll (Vv Xp (Vv Xp (Vv Xp Yw)))) rfl _ rfl rfl ?_
  refine Vx _ rfl rfl (Vv (VRd.ntl (Vb rfl tf_46_7 ts_44 (by decide))) (Vv (VRd.ntl (Vb rfl tf_46_7 ts_44 (by decide))) Yw)) ?_
  refine Vx _ rfl rfl (Vv (VRd.ntl (Vb rfl tf_44_0 ts_3 (by decide))) (Vv (VRd.ntl (Vb rfl tf_44_0 ts_3 (by decide))) Yw)) ?_
  refine Vx _ rfl rfl (Vv (VRd.ntl (Vj rfl (Vg (Vl hn) rfl) rfl ta_3 rfl)) (Vv (VRd.ntl (Vj rfl (Vg (Vl hn) rfl) rfl ta_3 rfl)) Yw)) ?_
  refine Yd rfl rfl (Xg rfl) ?_
  refine Ya rfl rfl rfl (Vz (ps := [(q0, ⟨88, 2, [.agg [.vs 1 (Wa (Wb .u8) x13.1.l), .int .i64 x13.1.at_]], w0⟩)]) (r := .int .i64 x13.2) (os := []) (low1 := (setL low0 [(q0, ⟨88, 2, [.agg [.vs 1 (Wa (Wb .u8) x13.1.l), .int .i64 x13.1.at_]], w0⟩)])) (loc1 := [⟨46, 10, [.agg [.int .i64 0, .int .i64 0, .int .i64 0, .int .i64 0, .bool false, .bool false, .int .i64 0, .int .i64 0, .int .i64 0, .int .i64 0]], 0⟩, ⟨46, 10, [.agg [.int .i64 p1, .int .i64 p2, .int .i64 x1.2, .int .i64 x3.2, .bool (decide (0 < x5.2)), .bool false, .int .i64 x7.2, .int .i64 (IntKind.i64.wrap (x7.2 + x9.2)), .int .i64 x11.2, .int .i64 0]], 0⟩]) (loc2 := [⟨46, 10, [.agg [.int .i64 0, .int .i64 0, .int .i64 0, .int .i64 0, .bool false, .bool false, .int .i64 0, .int .i64 0, .int .i64 0, .int .i64 0]], 0⟩, ⟨46, 10, [.agg [.int .i64 p1, .int .i64 p2, .int .i64 x1.2, .int .i64 x3.2, .bool (decide (0 < x5.2)), .bool false, .int .i64 x7.2, .int .i64 (IntKind.i64.wrap (x7.2 + x9.2)), .int .i64 x11.2, .int .i64 0]], 0⟩]) rfl Try.call27 (F_draw_Codes_Next_ok h14 (nd1 na0 nd0) (Zb hB rfl 0 rfl) (Xs (Vl hn) rfl)) (Yk (ps0' := [(q0, ⟨88, 2, [.agg [.vs 1 (Wa (Wb .u8) x13.1.l), .int .i64 x13.1.at_]], w0⟩)]) hB rfl 0 rfl (Yo hn ⟨Vo ⟨.vs _ _, .int _ _, trivial⟩, trivial⟩) rfl Xf) rfl) ?_
  refine Yd rfl rfl (Zf rfl rfl rfl) ?_
  refine Yd rfl rfl (Vb rfl tf_46_7 ts_44 (by decide)) ?_
  refine Yd rfl rfl (Vb rfl tf_44_1 ts_3 (by decide)) ?_
  refine Ya rfl rfl rfl (Vw (p := .int .i64 (IntKind.i64.wrap (x11.2 + x13.2))) (e' := .agg [.int .i64 p1, .int .i64 p2, .int .i64 x1.2, .int .i64 x3.2, .bool (decide (0 < x5.2)), .bool false, .int .i64 x7.2, .int .i64 (IntKind.i64.wrap (x7.2 + x9.2)), .int .i64 x11.2, .int .i64 (IntKind.i64.wrap (x11.2 + x13.2))]) rfl (Vg (Vl hn) rfl) rfl rfl ts_3 rfl (Yg rfl) rfl (We rfl) rfl (Xn (Vl hn) rfl)) ?_
  refine Yx ?_
  refine Vf ?_
  refine Vd ?_
  refine Va (Xa (ds := [.int .i64 p1, .int .i64 p2, .int .i64 x1.2, .int .i64 x3.2, .bool (decide (0 < x5.2)), .bool false, .int .i64 x7.2, .int .i64 (IntKind.i64.wrap (x7.2 + x9.2)), .int .i64 x11.2, .int .i64 (IntKind.i64.wrap (x11.2 + x13.2))]) rfl (Vg (Vl hn) rfl) rfl ta_46 ts_46 rfl rfl rfl) rfl ?_
  refine Vi (Vw (p := .agg [.int .i64 p1, .int .i64 p2, .int .i64 x1.2, .int .i64 x3.2, .bool (decide (0 < x5.2)), .bool false, .int .i64 x7.2, .int .i64 (IntKind.i64.wrap (x7.2 + x9.2)), .int .i64 x11.2, .int .i64 (IntKind.i64.wrap (x11.2 + x13.2))]) (e' := .agg [.int .i64 p1, .int .i64 p2, .int .i64 x1.2, .int .i64 x3.2, .bool (decide (0 < x5.2)), .bool false, .int .i64 x7.2, .int .i64 (IntKind.i64.wrap (x7.2 + x9.2)), .int .i64 x11.2, .int .i64 (IntKind.i64.wrap (x11.2 + x13.2))]) rfl (Vg (Vl hn) rfl) rfl rfl ts_46 rfl (Yg rfl) rfl (We rfl) rfl (Xn (Vl hn) rfl)) rfl ?_
  refine Ve ?_
  refine Yb ?_
  obtain rfl := Wd hF
  refine fnR ?_
  exact Vm (Vl hn) [(0, 0)] (by decide) ⟨Vt 0 0 rfl rfl, trivial⟩ ⟨⟨_, rfl, rfl, .same _ _ _ _ (Vn ⟨Vo ⟨.int _ _, .int _ _, .int _ _, .int _ _, .bool _, .bool _, .int _ _, .int _ _, .int _ _, .int _ _, trivial⟩, trivial⟩)⟩, trivial⟩
 ·rintro _ _ _ _ ⟨he, hw⟩
  refine ⟨_, _, _, hw, ?_⟩
  exact Zc he [.agg [.int .i64 r.2.From, .int .i64 r.2.To, .int .i64 r.2.Length, .int .i64 r.2.Area, .bool r.2.Walk, .bool r.2.Closed, .int .i64 r.2.Rest.Low, .int .i64 r.2.Rest.High, .int .i64 r.2.Lift.Low, .int .i64 r.2.Lift.High]] ⟨Xa rfl (Vg (Vl hn) rfl) rfl ta_46 ts_46 rfl rfl rfl, trivial⟩ ((Vo ⟨.int _ _, .int _ _, .int _ _, .int _ _, .bool _, .bool _, .int _ _, .int _ _, .int _ _, .int _ _, trivial⟩)) ⟨rfl, (List.append_nil _).symm⟩

theorem F_draw_Codes_Road_ok {p0 : T_draw_Codes} {p1 : Int} {p2 : Int} {r : T_draw_Codes × T_Road} (hF : F_draw_Codes_Road p0 p1 p2 = some r) {low : List AObj} {q0 w0 : Nat} (hnd : [q0].Nodup) (hq0 : low[q0]? = some ⟨88, 2, [.agg [.vs 1 (Wa (Wb .u8) p0.l), .int .i64 p0.at_]], w0⟩) {n : Nat} (hn : low.length = n) :
    Zh Try.prog 37 [.ptr q0 w0 0 0, .int .i64 p1, .int .i64 p2] low fun x low' => x = .agg [.int .i64 r.2.From, .int .i64 r.2.To, .int .i64 r.2.Length, .int .i64 r.2.Area, .bool r.2.Walk, .bool r.2.Closed, .int .i64 r.2.Rest.Low, .int .i64 r.2.Rest.High, .int .i64 r.2.Lift.Low, .int .i64 r.2.Lift.High] ∧ low' = setL low [(q0, ⟨88, 2, [.agg [.vs 1 (Wa (Wb .u8) r.1.l), .int .i64 r.1.at_]], w0⟩)] ++ [] := by
  obtain ⟨h1, h2⟩ := bor_start (ps := [(q0, ⟨88, 2, [.agg [.vs 1 (Wa (Wb .u8) p0.l), .int .i64 p0.at_]], w0⟩)]) hnd (borC hq0 bor0)
  exact Zz h1 (F_draw_Codes_Road_ok0 hF h2 hn)

theorem F_draw_Codes_Curve_ok0 {p0 : T_draw_Codes} {r : T_draw_Codes × List T_Point} (hF : F_draw_Codes_Curve p0 = some r) {low0 : List AObj} {q0 w0 : Nat} (hB : Bor low0 [q0]) {n : Nat} (hn : low0.length = n) :
    Zh Try.prog 43 [.ptr q0 w0 0 0] (setL low0 [(q0, ⟨88, 2, [.agg [.vs 1 (Wa (Wb .u8) p0.l), .int .i64 p0.at_]], w0⟩)]) fun x low' => x = .vs 2 (Wa T_Point.enc r.2) ∧ low' = setL low0 [(q0, ⟨88, 2, [.agg [.vs 1 (Wa (Wb .u8) r.1.l), .int .i64 r.1.at_]], w0⟩)] ++ [] := by
 refine Xr (nt := 40) (rs := [.tmp 2]) Try.func43 rfl rfl (We rfl) rfl ?_
 have hq0 : q0 < n := hB.ltN hn 0 rfl
 refine Vs (Q' := FnE (fun E' lw lc => Xz E' lw lc [(2, .vs 2 (Wa T_Point.enc r.2))] (setL low0 [(q0, ⟨88, 2, [.agg [.vs 1 (Wa (Wb .u8) r.1.l), .int .i64 r.1.at_]], w0⟩)]) [])) ?_ ?_
 ·unfold F_draw_Codes_Curve at hF
  refine Vf ?_
  refine Vd ?_
  refine Va (rd_nv (sz := 2) (rd_asN rfl)) rfl ?_
  refine Ve ?_
  refine Vf ?_
  refine Vd ?_
  obtain ⟨x1, h2, hF⟩ := Yf hF
  obtain ⟨x3, h4, hF⟩ := Yf hF
  refine Va (Xg rfl) rfl ?_
  refine Vi (Vz (ps := [(q0, ⟨88, 2, [.agg [.vs 1 (Wa (Wb .u8) x1.1.l), .int .i64 x1.1.at_]], w0⟩)]) (r := .int .i64 x1.2) (os := []) (low1 := (setL low0 [(q0, ⟨88, 2, [.agg [.vs 1 (Wa (Wb .u8) x1.1.l), .int .i64 x1.1.at_]], w0⟩)])) (loc1 := []) (loc2 := []) rfl Try.call28 (F_draw_Codes_Range_ok h2 (nd1 na0 nd0) (Zb hB rfl 0 rfl) (Xs (Vl hn) rfl)) (Yk (ps0' := [(q0, ⟨88, 2, [.agg [.vs 1 (Wa (Wb .u8) x1.1.l), .int .i64 x1.1.at_]], w0⟩)]) hB rfl 0 rfl (Yo hn ⟨Vo ⟨.vs _ _, .int _ _, trivial⟩, trivial⟩) rfl Xf) rfl) rfl ?_
  refine Va (Xg rfl) rfl ?_
  refine Vi (Vz (ps := [(q0, ⟨88, 2, [.agg [.vs 1 (Wa (Wb .u8) x3.1.l), .int .i64 x3.1.at_]], w0⟩)]) (r := .int .i64 x3.2) (os := []) (low1 := (setL low0 [(q0, ⟨88, 2, [.agg [.vs 1 (Wa (Wb .u8) x3.1.l), .int .i64 x3.1.at_]], w0⟩)])) (loc1 := []) (loc2 := []) rfl Try.call28 (F_draw_Codes_Range_ok h4 (nd1 na0 nd0) (Zb hB rfl 0 rfl) (Xs (Vl hn) rfl)) (Yk (ps0' := [(q0, ⟨88, 2, [.agg [.vs 1 (Wa (Wb .u8) x3.1.l), .int .i64 x3.1.at_]], w0⟩)]) hB rfl 0 rfl (Yo hn ⟨Vo ⟨.vs _ _, .int _ _, trivial⟩, trivial⟩) rfl Xf) rfl) rfl ?_
  refine Va (Ye (vs := [(0, .int .i64 x1.2), (1, .int .i64 x3.2)]) (ds := [.int .i64 x1.2, .int .i64 x3.2]) tz_106 rfl rfl tp_106 ⟨rfl, rfl, rfl, rfl, trivial⟩ (Yh rfl) rfl) rfl ?_
  refine Vi (vef_litN (Vl hn) rfl (es := Wa T_Point.enc [(T_Point.mk x1.2 x3.2)]) ⟨rfl, rfl, trivial⟩ rfl rfl (Zm rfl) te_70 ts_106 tz_106 rfl rfl (Wf _) (by decide)) rfl ?_
  refine Va (rd_asL rfl) rfl ?_
  refine Ve ?_
  refine Vf ?_
  refine Vf ?_
  refine Vd ?_
  obtain ⟨x5, h6, hF⟩ := Yf hF
  refine Va (Xg rfl) rfl ?_
  refine Vi (Vz (ps := [(q0, ⟨88, 2, [.agg [.vs 1 (Wa (Wb .u8) x5.1.l), .int .i64 x5.1.at_]], w0⟩)]) (r := .int .i64 x5.2) (os := []) (low1 := (setL low0 [(q0, ⟨88, 2, [.agg [.vs 1 (Wa (Wb .u8) x5.1.l), .int .i64 x5.1.at_]], w0⟩)])) (loc1 := [⟨106, 2, Wa T_Point.enc [(T_Point.mk x1.2 x3.2)], 0⟩]) (loc2 := [⟨106, 2, Wa T_Point.enc [(T_Point.mk x1.2 x3.2)], 0⟩]) rfl Try.call27 (F_draw_Codes_Next_ok h6 (nd1 na0 nd0) (Zb hB rfl 0 rfl) (Xs (Vl hn) rfl)) (Yk (ps0' := [(q0, ⟨88, 2, [.agg [.vs 1 (Wa (Wb .u8) x5.1.l), .int .i64 x5.1.at_]], w0⟩)]) hB rfl 0 rfl (Yo hn ⟨Vo ⟨.vs _ _, .int _ _, trivial⟩, trivial⟩) rfl Xf) rfl) rfl ?_
  refine Va (Xv rfl) rfl ?_
  refine Ve ?_
  refine Xh ?_
  obtain ⟨o8, ho8, hF⟩ := Yf hF
  refine Vs (Yy F_draw_Codes_Curve_L1 (fun s7 E' lw lc => Xz E' lw lc [(0, .ptr q0 w0 0 0), (3, .sl (n + 0) 0 0 (s7.2.1).length), (4, .int .i64 s7.1)] (setL low0 [(q0, ⟨88, 2, [.agg [.vs 1 (Wa (Wb .u8) s7.2.2.l), .int .i64 s7.2.2.at_]], w0⟩)]) [⟨106, 2, Wa T_Point.enc s7.2.1, 0⟩]) (fun o8 => OnlyE (.exit 0) (fun E' lw lc => Xz E' lw lc [(3, .sl (n + 0) 0 0 (o8.1).length)] (setL low0 [(q0, ⟨88, 2, [.agg [.vs 1 (Wa (Wb .u8) o8.2.l), .int .i64 o8.2.at_]], w0⟩)]) [⟨106, 2, Wa T_Point.enc o8.1, 0⟩])) ho8 ?_ (by rintro _ _ _ _ ⟨h, _⟩ <;> cases h) ?_) ?_
  ·exact Vp ⟨rfl, rfl, rfl, trivial⟩
  ·rintro s7 os7 _ _ _ hF hw
   unfold F_draw_Codes_Curve_L1 at hF
   refine Yl hw ?_
   refine Vf ?_
   refine Vf ?_
   refine Vd ?_
   refine Va (Vk rfl) rfl ?_
   refine Va (Zq rfl rfl) rfl ?_
   refine Ve ?_
   refine Xi rfl (fun c9 => ?_) (fun c9 => ?_)
   ·have hF := Yq c9 hF
    refine Xj ?_
    refine Vf ?_
    refine Xh ?_
    refine Vf ?_
    refine Vd ?_
    obtain ⟨x10, h11, hF⟩ := Yf hF
    refine Va (Yn rfl) rfl ?_
    refine Va (Yn rfl) rfl ?_
    refine Va (rd_lenS rfl (Vg (Vl hn) rfl) rfl rfl te_70) rfl ?_
    refine Va (Zp rfl rfl rfl) rfl ?_
    refine Va (Zr rfl rfl rfl (Vg (Vl hn) rfl) h11 te_70 ts_106) rfl ?_
    refine Va (rd_ldLN (ds := [.int .i64 x10.Flow, .int .i64 x10.Pressure]) rfl (Vg (Vl hn) rfl) (Yi h11).2 ta_106 ts_106 rfl rfl) rfl ?_
    refine Vi (Xm (Vl hn) rfl tz_106 rfl rfl (Wf _) rfl) rfl ?_
    refine Vi (Vw (p := .agg [.int .i64 x10.Flow, .int .i64 x10.Pressure]) (e' := .agg [.int .i64 x10.Flow, .int .i64 x10.Pressure]) rfl (Vg (Vl hn) rfl) rfl rfl ts_106 rfl (Yg rfl) rfl (We rfl) rfl (Xn (Vl hn) rfl)) rfl ?_
    refine Ve ?_
    obtain ⟨x12, h13, hF⟩ := Yf hF
    obtain ⟨x14, h15, hF⟩ := Yf hF
    obtain ⟨x16, h17, hF⟩ := Yf hF
    refine Zn [[], [], [1], [], [3], [1, 2, 3, 4], [], [6], [], [3, 4, 8], [3, 4, 6, 7, 8, 9], [3, 4, 6, 7, 8, 9, 10], [1, 2, 3, 4, 5, 6, 7, 8, 9, 10, 11], [1, 2, 3, 4, 5, 6, 7, 8, 9, 10, 11, 12], [0, 1, 2, 3, 4, 5, 6, 7, 8, 9, 10, 11, 12, 13], [0, 1, 2, 3, 4, 5, 6, 7, 8, 9, 10, 11, 12, 13, 14]] [false, false, false, false, true, false, false, false, false, true, false, false, false, false, true, false] [((setL low0 [(q0, ⟨88, 2, [.agg [.vs 1 (Wa (Wb .u8) s7.2.2.l), .int .i64 s7.2.2.at_]], w0⟩)]), [⟨106, 2, Wa T_Point.enc s7.2.1, 0⟩, ⟨106, 2, [.agg [.int .i64 x10.Flow, .int .i64 x10.Pressure]], 0⟩]), ((setL low0 [(q0, ⟨88, 2, [.agg [.vs 1 (Wa (Wb .u8) x12.1.l), .int .i64 x12.1.at_]], w0⟩)]), [⟨106, 2, Wa T_Point.enc s7.2.1, 0⟩, ⟨106, 2, [.agg [.int .i64 x10.Flow, .int .i64 x10.Pressure]], 0⟩]), ((setL low0 [(q0, ⟨88, 2, [.agg [.vs 1 (Wa (Wb .u8) x14.1.l), .int .i64 x14.1.at_]], w0⟩)]), [⟨106, 2, Wa T_Point.enc s7.2.1, 0⟩, ⟨106, 2, [.agg [.int .i64 x10.Flow, .int .i64 x10.Pressure]], 0⟩]), ((setL low0 [(q0, ⟨88, 2, [.agg [.vs 1 (Wa (Wb .u8) x14.1.l), .int .i64 x14.1.at_]], w0⟩)]), [⟨106, 2, Wa T_Point.enc x16, 0 + 1⟩, ⟨106, 2, [.agg [.int .i64 x10.Flow, .int .i64 x10.Pressure]], 0⟩])] mixed (by kernel_rfl) rfl (lenAll (Vv Xp (Vv Xp (Vv Xp (Vv Xp Yw))))) rfl _ rfl rfl ?_
    refine Vx _ rfl rfl (Vv (VRd.ntl (Yn rfl)) (Vv (VRd.ntl (Yn rfl)) (Vv (VRd.ntl (Yn rfl)) Yw))) ?_
    refine Vx _ rfl rfl (Vv (VRd.ntl (Vb rfl tf_106_0 ts_3 (by decide))) (Vv (VRd.ntl (Vb rfl tf_106_0 ts_3 (by decide))) (Vv (VRd.ntl (Vb rfl tf_106_0 ts_3 (by decide))) Yw))) ?_
    refine Vx _ rfl rfl (Vv (VRd.ntl (Vj rfl (Vg (Vl hn) rfl) rfl ta_3 rfl)) (Vv (VRd.ntl (Vj rfl (Vg (Vl hn) rfl) rfl ta_3 rfl)) (Vv (VRd.ntl (Vj rfl (Vg (Vl hn) rfl) rfl ta_3 rfl)) Yw))) ?_
    refine Yd rfl rfl (Xg rfl) ?_
    refine Ya rfl rfl rfl (Vz (ps := [(q0, ⟨88, 2, [.agg [.vs 1 (Wa (Wb .u8) x12.1.l), .int .i64 x12.1.at_]], w0⟩)]) (r := .int .i64 x12.2) (os := []) (low1 := (setL low0 [(q0, ⟨88, 2, [.agg [.vs 1 (Wa (Wb .u8) x12.1.l), .int .i64 x12.1.at_]], w0⟩)])) (loc1 := [⟨106, 2, Wa T_Point.enc s7.2.1, 0⟩, ⟨106, 2, [.agg [.int .i64 x10.Flow, .int .i64 x10.Pressure]], 0⟩]) (loc2 := [⟨106, 2, Wa T_Point.enc s7.2.1, 0⟩, ⟨106, 2, [.agg [.int .i64 x10.Flow, .int .i64 x10.Pressure]], 0⟩]) rfl Try.call28 (F_draw_Codes_Range_ok h13 (nd1 na0 nd0) (Zb hB rfl 0 rfl) (Xs (Vl hn) rfl)) (Yk (ps0' := [(q0, ⟨88, 2, [.agg [.vs 1 (Wa (Wb .u8) x12.1.l), .int .i64 x12.1.at_]], w0⟩)]) hB rfl 0 rfl (Yo hn ⟨Vo ⟨.vs _ _, .int _ _, trivial⟩, trivial⟩) rfl Xf) rfl) ?_
    refine Vx _ rfl rfl (Vv (VRd.ntl (Zf rfl rfl rfl)) (Vv (VRd.ntl (Zf rfl rfl rfl)) Yw)) ?_
    refine Vx _ rfl rfl (Vv (VRd.ntl (Vb rfl tf_106_1 ts_3 (by decide))) (Vv (VRd.ntl (Vb rfl tf_106_1 ts_3 (by decide))) (Vv (VRd.ntl (Vb rfl tf_106_1 ts_3 (by decide))) Yw))) ?_
    refine Vx _ rfl rfl (Vv (VRd.ntl (Vj rfl (Vg (Vl hn) rfl) rfl ta_3 rfl)) (Vv (VRd.ntl (Vj rfl (Vg (Vl hn) rfl) rfl ta_3 rfl)) (Vv (VRd.ntl (Vj rfl (Vg (Vl hn) rfl) rfl ta_3 rfl)) Yw))) ?_
    refine Vx _ rfl rfl (Vv (VRd.ntl (Xg rfl)) (Vv (VRd.ntl (Xg rfl)) Yw)) ?_
    refine Ya rfl rfl rfl (Vz (ps := [(q0, ⟨88, 2, [.agg [.vs 1 (Wa (Wb .u8) x14.1.l), .int .i64 x14.1.at_]], w0⟩)]) (r := .int .i64 x14.2) (os := []) (low1 := (setL low0 [(q0, ⟨88, 2, [.agg [.vs 1 (Wa (Wb .u8) x14.1.l), .int .i64 x14.1.at_]], w0⟩)])) (loc1 := [⟨106, 2, Wa T_Point.enc s7.2.1, 0⟩, ⟨106, 2, [.agg [.int .i64 x10.Flow, .int .i64 x10.Pressure]], 0⟩]) (loc2 := [⟨106, 2, Wa T_Point.enc s7.2.1, 0⟩, ⟨106, 2, [.agg [.int .i64 x10.Flow, .int .i64 x10.Pressure]], 0⟩]) rfl Try.call27 (F_draw_Codes_Next_ok h15 (nd1 na0 nd0) (Zb hB rfl 0 rfl) (Xs (Vl hn) rfl)) (Yk (ps0' := [(q0, ⟨88, 2, [.agg [.vs 1 (Wa (Wb .u8) x14.1.l), .int .i64 x14.1.at_]], w0⟩)]) hB rfl 0 rfl (Yo hn ⟨Vo ⟨.vs _ _, .int _ _, trivial⟩, trivial⟩) rfl Xf) rfl) ?_
    refine Yd rfl rfl (Zp rfl rfl rfl) ?_
    refine Yd rfl rfl (rd_max rfl rfl) ?_
    refine Yd rfl rfl (Ye (vs := [(0, .int .i64 (IntKind.i64.wrap (x10.Flow + x12.2))), (1, .int .i64 (max 0 (IntKind.i64.wrap (x10.Pressure - x14.2))))]) (ds := [.int .i64 (IntKind.i64.wrap (x10.Flow + x12.2)), .int .i64 (max 0 (IntKind.i64.wrap (x10.Pressure - x14.2)))]) tz_106 rfl rfl tp_106 ⟨rfl, rfl, rfl, rfl, trivial⟩ (Yh rfl) rfl) ?_
    refine dn1 rfl rfl (nt_of (Yt (es := Wa T_Point.enc [(T_Point.mk (IntKind.i64.wrap (x10.Flow + x12.2)) (max 0 (IntKind.i64.wrap (x10.Pressure - x14.2))))]) ⟨rfl, rfl, trivial⟩ rfl rfl (Zm rfl) te_70 ts_106 tz_106 rfl rfl (Wf _) (by decide) (Ym T_Point.enc_lt))) ?_
    refine Ya rfl rfl rfl (Zw (f := T_Point.enc) (l := s7.2.1) (ys := [(T_Point.mk (IntKind.i64.wrap (x10.Flow + x12.2)) (max 0 (IntKind.i64.wrap (x10.Pressure - x14.2))))]) rfl rfl (Vg (Vl hn) rfl) rfl (src_vs rfl) te_70 ts_106 tb_106 (by decide) tz_106 rfl h17 (Xn (Vl hn) rfl)) ?_
    refine Yd rfl rfl (rd_asL rfl) ?_
    refine Yx ?_
    refine Vd ?_
    refine Va (Vk rfl) rfl ?_
    refine Va (Zp rfl rfl rfl) rfl ?_
    refine Va (Xv rfl) rfl ?_
    refine Ve ?_
    obtain rfl := Wd hF
    refine Xk ?_
    exact Vm (Vl hn) [(0, 0 + 1)] (by decide) ⟨Vh rfl (.ptr _ _ _ _ hq0), Yc 0 0 rfl rfl, Vh rfl (.int _ _), trivial⟩ ⟨⟨_, rfl, rfl, .same _ _ _ _ (Vq T_Point.enc_lt)⟩, trivial⟩
   ·have hF := Yr c9 hF
    refine Zd ?_
    obtain rfl := Wd hF
    refine Xk ?_
    exact Vp ⟨rfl, trivial⟩
  ·rintro _ _ _ _ ⟨rfl, hw⟩
   refine ⟨_, _, _, hw, ?_⟩
   refine Vf ?_
   refine Vd ?_
   refine Va (Yn rfl) rfl ?_
   refine Va (rd_asL rfl) rfl ?_
   refine Ve ?_
   refine Yb ?_
   obtain rfl := Wd hF
   refine fnR ?_
   refine Weak.trans (Yv (E' := [(2, .vs 2 (Wa T_Point.enc o8.1))]) (loc1 := [⟨106, 2, [], 0 + 1⟩]) (Vl hn) 0 rfl (Ym T_Point.enc_lt) ⟨cv_sl rfl rfl rfl (Zj rfl), trivial⟩ ⟨.refl _, trivial⟩) ?_
   exact Vm (Vl hn) [] (by decide) ⟨Vh rfl (.vs _ _), trivial⟩ trivial
 ·rintro _ _ _ _ ⟨he, hw⟩
  refine ⟨_, _, _, hw, ?_⟩
  exact Zc he [.vs 2 (Wa T_Point.enc r.2)] ⟨rfl, trivial⟩ (.vs _ _) ⟨rfl, (List.append_nil _).symm⟩

theorem F_draw_Codes_Curve_ok {p0 : T_draw_Codes} {r : T_draw_Codes × List T_Point} (hF : F_draw_Codes_Curve p0 = some r) {low : List AObj} {q0 w0 : Nat} (hnd : [q0].Nodup) (hq0 : low[q0]? = some ⟨88, 2, [.agg [.vs 1 (Wa (Wb .u8) p0.l), .int .i64 p0.at_]], w0⟩) {n : Nat} (hn : low.length = n) :
    Zh Try.prog 43 [.ptr q0 w0 0 0] low fun x low' => x = .vs 2 (Wa T_Point.enc r.2) ∧ low' = setL low [(q0, ⟨88, 2, [.agg [.vs 1 (Wa (Wb .u8) r.1.l), .int .i64 r.1.at_]], w0⟩)] ++ [] := by
  obtain ⟨h1, h2⟩ := bor_start (ps := [(q0, ⟨88, 2, [.agg [.vs 1 (Wa (Wb .u8) p0.l), .int .i64 p0.at_]], w0⟩)]) hnd (borC hq0 bor0)
  exact Zz h1 (F_draw_Codes_Curve_ok0 hF h2 hn)

theorem F_draw_Codes_Door_ok0 {p0 : T_draw_Codes} {p1 : Int} {r : T_draw_Codes × T_Door} (hF : F_draw_Codes_Door p0 p1 = some r) {low0 : List AObj} {q0 w0 : Nat} (hB : Bor low0 [q0]) {n : Nat} (hn : low0.length = n) :
    Zh Try.prog 44 [.ptr q0 w0 0 0, .int .i64 p1] (setL low0 [(q0, ⟨88, 2, [.agg [.vs 1 (Wa (Wb .u8) p0.l), .int .i64 p0.at_]], w0⟩)]) fun x low' => x = .agg [.int .i64 r.2.Road, .int .i64 r.2.Other, .sl (n + 0) 0 0 (r.2.Rests).length] ∧ low' = setL low0 [(q0, ⟨88, 2, [.agg [.vs 1 (Wa (Wb .u8) r.1.l), .int .i64 r.1.at_]], w0⟩)] ++ [⟨3, 1, Wa (Wb .i64) r.2.Rests, 0⟩] := by
 refine Xr (nt := 36) (rs := [.cell 4 99]) Try.func44 rfl rfl (We rfl) rfl ?_
 have hq0 : q0 < n := hB.ltN hn 0 rfl
 refine Vs (Q' := FnE (fun E' lw lc => Xz E' lw lc [(4, .ptr (n + 1) 0 0 0)] (setL low0 [(q0, ⟨88, 2, [.agg [.vs 1 (Wa (Wb .u8) r.1.l), .int .i64 r.1.at_]], w0⟩)]) [⟨3, 1, Wa (Wb .i64) r.2.Rests, 0⟩, ⟨99, 3, [.agg [.int .i64 r.2.Road, .int .i64 r.2.Other, .sl (n + 0) 0 0 (r.2.Rests).length]], 0⟩])) ?_ ?_
 ·unfold F_draw_Codes_Door at hF
  refine Vf ?_
  refine Vd ?_
  refine Vi (Xm (Vl hn) rfl tz_99 rfl rfl (Wf _) rfl) rfl ?_
  refine Ve ?_
  refine Vf ?_
  refine Vd ?_
  obtain ⟨x1, h2, hF⟩ := Yf hF
  refine Va (Vk rfl) rfl ?_
  refine Va (Xg rfl) rfl ?_
  refine Vi (Vz (ps := [(q0, ⟨88, 2, [.agg [.vs 1 (Wa (Wb .u8) x1.1.l), .int .i64 x1.1.at_]], w0⟩)]) (r := .int .i64 x1.2) (os := []) (low1 := (setL low0 [(q0, ⟨88, 2, [.agg [.vs 1 (Wa (Wb .u8) x1.1.l), .int .i64 x1.1.at_]], w0⟩)])) (loc1 := [⟨99, 3, [.agg [.int .i64 0, .int .i64 0, .nils]], 0⟩]) (loc2 := [⟨99, 3, [.agg [.int .i64 0, .int .i64 0, .nils]], 0⟩]) rfl Try.call28 (F_draw_Codes_Range_ok h2 (nd1 na0 nd0) (Zb hB rfl 0 rfl) (Xs (Vl hn) rfl)) (Yk (ps0' := [(q0, ⟨88, 2, [.agg [.vs 1 (Wa (Wb .u8) x1.1.l), .int .i64 x1.1.at_]], w0⟩)]) hB rfl 0 rfl (Yo hn ⟨Vo ⟨.vs _ _, .int _ _, trivial⟩, trivial⟩) rfl Xf) rfl) rfl ?_
  refine Vi (vef_litN (Vl hn) rfl (es := Wa (Wb .i64) [x1.2]) ⟨rfl, rfl, trivial⟩ rfl rfl (Zm rfl) te_32 ts_3 tz_3 rfl rfl (Wf _) (by decide)) rfl ?_
  refine Va (Ye (vs := [(0, .int .i64 p1), (1, .int .i64 (-1)), (2, .sl (n + 1) 0 0 ([x1.2]).length)]) (ds := [.int .i64 p1, .int .i64 (-1), .sl (n + 1) 0 0 ([x1.2]).length]) tz_99 rfl rfl tp_99 ⟨rfl, rfl, rfl, rfl, rfl, rfl, trivial⟩ (Yh rfl) rfl) rfl ?_
  refine Vi (Xm (Vl hn) rfl tz_99 rfl rfl (Wf _) rfl) rfl ?_
  refine Vi (Vw (p := .agg [.int .i64 p1, .int .i64 (-1), .sl (n + 1) 0 0 ([x1.2]).length]) (e' := .agg [.int .i64 p1, .int .i64 (-1), .sl (n + 1) 0 0 ([x1.2]).length]) rfl (Vg (Vl hn) rfl) rfl rfl ts_99 rfl (Yg rfl) rfl (We rfl) rfl (Xn (Vl hn) rfl)) rfl ?_
  refine Ve ?_
  refine Vf ?_
  refine Vf ?_
  refine Vd ?_
  obtain ⟨x3, h4, hF⟩ := Yf hF
  refine Va (Xg rfl) rfl ?_
  refine Vi (Vz (ps := [(q0, ⟨88, 2, [.agg [.vs 1 (Wa (Wb .u8) x3.1.l), .int .i64 x3.1.at_]], w0⟩)]) (r := .int .i64 x3.2) (os := []) (low1 := (setL low0 [(q0, ⟨88, 2, [.agg [.vs 1 (Wa (Wb .u8) x3.1.l), .int .i64 x3.1.at_]], w0⟩)])) (loc1 := [⟨99, 3, [.agg [.int .i64 0, .int .i64 0, .nils]], 0⟩, ⟨3, 1, Wa (Wb .i64) [x1.2], 0⟩, ⟨99, 3, [.agg [.int .i64 p1, .int .i64 (-1), .sl (n + 1) 0 0 ([x1.2]).length]], 0⟩]) (loc2 := [⟨99, 3, [.agg [.int .i64 0, .int .i64 0, .nils]], 0⟩, ⟨3, 1, Wa (Wb .i64) [x1.2], 0⟩, ⟨99, 3, [.agg [.int .i64 p1, .int .i64 (-1), .sl (n + 1) 0 0 ([x1.2]).length]], 0⟩]) rfl Try.call28 (F_draw_Codes_Range_ok h4 (nd1 na0 nd0) (Zb hB rfl 0 rfl) (Xs (Vl hn) rfl)) (Yk (ps0' := [(q0, ⟨88, 2, [.agg [.vs 1 (Wa (Wb .u8) x3.1.l), .int .i64 x3.1.at_]], w0⟩)]) hB rfl 0 rfl (Yo hn ⟨Vo ⟨.vs _ _, .int _ _, trivial⟩, trivial⟩) rfl Xf) rfl) rfl ?_
  refine Va (Xv rfl) rfl ?_
  refine Ve ?_
  refine Xh ?_
  obtain ⟨o6, ho6, hF⟩ := Yf hF
  refine Vs (Yy F_draw_Codes_Door_L1 (fun s5 E' lw lc => Xz E' lw lc [(0, .ptr q0 w0 0 0), (4, .ptr (n + 0) 0 0 0), (5, .ptr (n + 1) 0 0 0), (6, .int .i64 s5.1)] (setL low0 [(q0, ⟨88, 2, [.agg [.vs 1 (Wa (Wb .u8) s5.2.2.l), .int .i64 s5.2.2.at_]], w0⟩)]) [⟨99, 3, [.agg [.int .i64 0, .int .i64 0, .nils]], 0⟩, ⟨99, 3, [.agg [.int .i64 p1, .int .i64 (-1), .sl (n + 2) 0 0 (s5.2.1).length]], 0⟩, ⟨3, 1, Wa (Wb .i64) s5.2.1, 0⟩]) (fun o6 => OnlyE (.exit 0) (fun E' lw lc => Xz E' lw lc [(4, .ptr (n + 0) 0 0 0), (5, .ptr (n + 1) 0 0 0)] (setL low0 [(q0, ⟨88, 2, [.agg [.vs 1 (Wa (Wb .u8) o6.2.l), .int .i64 o6.2.at_]], w0⟩)]) [⟨99, 3, [.agg [.int .i64 0, .int .i64 0, .nils]], 0⟩, ⟨99, 3, [.agg [.int .i64 p1, .int .i64 (-1), .sl (n + 2) 0 0 (o6.1).length]], 0⟩, ⟨3, 1, Wa (Wb .i64) o6.1, 0⟩])) ho6 ?_ (by rintro _ _ _ _ ⟨h, _⟩ <;> cases h) ?_) ?_
  ·exact Vm (Vl hn) [(0, 0), (2, 0), (1, 0)] (by decide) ⟨Vh rfl (.ptr _ _ _ _ hq0), Vt 0 0 rfl rfl, Vt 1 2 rfl rfl, Vh rfl (.int _ _), trivial⟩ ⟨⟨_, rfl, rfl, .same _ _ _ _ (Vn ⟨Vo ⟨.int _ _, .int _ _, .nils, trivial⟩, trivial⟩)⟩, ⟨_, rfl, rfl, .agg _ _ _ _ _ ⟨Vh rfl (.int _ _), Vh rfl (.int _ _), Yc 2 1 rfl rfl, trivial⟩⟩, ⟨_, rfl, rfl, .same _ _ _ _ (Vq (fun _ => .int _ _))⟩, trivial⟩
  ·rintro s5 os5 _ _ _ hF hw
   unfold F_draw_Codes_Door_L1 at hF
   refine Yl hw ?_
   refine Vf ?_
   refine Vf ?_
   refine Vd ?_
   refine Va (Vk rfl) rfl ?_
   refine Va (Zq rfl rfl) rfl ?_
   refine Ve ?_
   refine Xi rfl (fun c7 => ?_) (fun c7 => ?_)
   ·have hF := Yq c7 hF
    refine Xj ?_
    refine Vf ?_
    refine Xh ?_
    obtain ⟨x8, h9, hF⟩ := Yf hF
    obtain ⟨x10, h11, hF⟩ := Yf hF
    obtain ⟨x12, h13, hF⟩ := Yf hF
    refine Zn [[], [0], [], [2], [], [4], [4, 5], [4, 5, 6], [2, 3, 4, 5, 6, 7], [2, 3, 4, 5, 6, 7, 8], [], [10], [2, 3, 4, 5, 6, 7, 8, 9, 10, 11], [2, 3, 4, 5, 6, 7, 8, 9, 10, 11, 12], [2, 3, 4, 5, 6, 7, 8, 9, 10, 11, 12, 13], [0, 1, 2, 3, 4, 5, 6, 7, 8, 9, 10, 11, 12, 13, 14], [0, 1, 2, 3, 4, 5, 6, 7, 8, 9, 10, 11, 12, 13, 14, 15], [0, 1, 2, 3, 4, 5, 6, 7, 8, 9, 10, 11, 12, 13, 14, 15, 16]] [false, false, false, false, false, false, false, false, false, false, false, true, false, false, false, true, false, true] [((setL low0 [(q0, ⟨88, 2, [.agg [.vs 1 (Wa (Wb .u8) s5.2.2.l), .int .i64 s5.2.2.at_]], w0⟩)]), [⟨99, 3, [.agg [.int .i64 0, .int .i64 0, .nils]], 0⟩, ⟨99, 3, [.agg [.int .i64 p1, .int .i64 (-1), .sl (n + 2) 0 0 (s5.2.1).length]], 0⟩, ⟨3, 1, Wa (Wb .i64) s5.2.1, 0⟩]), ((setL low0 [(q0, ⟨88, 2, [.agg [.vs 1 (Wa (Wb .u8) x10.1.l), .int .i64 x10.1.at_]], w0⟩)]), [⟨99, 3, [.agg [.int .i64 0, .int .i64 0, .nils]], 0⟩, ⟨99, 3, [.agg [.int .i64 p1, .int .i64 (-1), .sl (n + 2) 0 0 (s5.2.1).length]], 0⟩, ⟨3, 1, Wa (Wb .i64) s5.2.1, 0⟩]), ((setL low0 [(q0, ⟨88, 2, [.agg [.vs 1 (Wa (Wb .u8) x10.1.l), .int .i64 x10.1.at_]], w0⟩)]), [⟨99, 3, [.agg [.int .i64 0, .int .i64 0, .nils]], 0⟩, ⟨99, 3, [.agg [.int .i64 p1, .int .i64 (-1), .sl (n + 2) 0 0 (s5.2.1).length]], 0⟩, ⟨3, 1, Wa (Wb .i64) x12, 0 + 1⟩]), ((setL low0 [(q0, ⟨88, 2, [.agg [.vs 1 (Wa (Wb .u8) x10.1.l), .int .i64 x10.1.at_]], w0⟩)]), [⟨99, 3, [.agg [.int .i64 0, .int .i64 0, .nils]], 0⟩, ⟨99, 3, [.agg [.int .i64 p1, .int .i64 (-1), .sl (n + 2) (0 + 1) 0 (x12).length]], 0⟩, ⟨3, 1, Wa (Wb .i64) x12, 0 + 1⟩])] mixed (by kernel_rfl) rfl (lenAll (Vv Xp (Vv Xp (Vv Xp (Vv Xp Yw))))) rfl _ rfl rfl ?_
    refine Vx _ rfl rfl (Vv (VRd.ntl (Vb rfl tf_99_2 ts_32 (by decide))) (Vv (VRd.ntl (Vb rfl tf_99_2 ts_32 (by decide))) Yw)) ?_
    refine Vx _ rfl rfl (Vv (VRd.ntl (Vj rfl (Vg (Vl hn) rfl) rfl ta_32 rfl)) (Vv (VRd.ntl (Vj rfl (Vg (Vl hn) rfl) rfl ta_32 rfl)) Yw)) ?_
    refine Vx _ rfl rfl (Vv (VRd.ntl (Vb rfl tf_99_2 ts_32 (by decide))) (Vv (VRd.ntl (Vb rfl tf_99_2 ts_32 (by decide))) Yw)) ?_
    refine Vx _ rfl rfl (Vv (VRd.ntl (Vj rfl (Vg (Vl hn) rfl) rfl ta_32 rfl)) (Vv (VRd.ntl (Vj rfl (Vg (Vl hn) rfl) rfl ta_32 rfl)) Yw)) ?_
    refine Vx _ rfl rfl (Vv (VRd.ntl (Vb rfl tf_99_2 ts_32 (by decide))) (Vv (VRd.ntl (Vb rfl tf_99_2 ts_32 (by decide))) Yw)) ?_
    refine Vx _ rfl rfl (Vv (VRd.ntl (Vj rfl (Vg (Vl hn) rfl) rfl ta_32 rfl)) (Vv (VRd.ntl (Vj rfl (Vg (Vl hn) rfl) rfl ta_32 rfl)) Yw)) ?_
    refine Vx _ rfl rfl (Vv (VRd.ntl (rd_lenS rfl (Vg (Vl hn) rfl) rfl rfl te_32)) (Vv (VRd.ntl (rd_lenS rfl (Vg (Vl hn) rfl) rfl rfl te_32)) Yw)) ?_
    refine Vx _ rfl rfl (Vv (VRd.ntl (Zp rfl rfl rfl)) (Vv (VRd.ntl (Zp rfl rfl rfl)) Yw)) ?_
    refine Vx _ rfl rfl (Vv (VRd.ntl (Zr rfl rfl rfl (Vg (Vl hn) rfl) h9 te_32 ts_3)) (Vv (VRd.ntl (Zr rfl rfl rfl (Vg (Vl hn) rfl) h9 te_32 ts_3)) Yw)) ?_
    refine Vx _ rfl rfl (Vv (VRd.ntl (Zs rfl (Vg (Vl hn) rfl) (Yi h9).2 ta_3 rfl)) (Vv (VRd.ntl (Zs rfl (Vg (Vl hn) rfl) (Yi h9).2 ta_3 rfl)) Yw)) ?_
    refine Yd rfl rfl (Xg rfl) ?_
    refine Ya rfl rfl rfl (Vz (ps := [(q0, ⟨88, 2, [.agg [.vs 1 (Wa (Wb .u8) x10.1.l), .int .i64 x10.1.at_]], w0⟩)]) (r := .int .i64 x10.2) (os := []) (low1 := (setL low0 [(q0, ⟨88, 2, [.agg [.vs 1 (Wa (Wb .u8) x10.1.l), .int .i64 x10.1.at_]], w0⟩)])) (loc1 := [⟨99, 3, [.agg [.int .i64 0, .int .i64 0, .nils]], 0⟩, ⟨99, 3, [.agg [.int .i64 p1, .int .i64 (-1), .sl (n + 2) 0 0 (s5.2.1).length]], 0⟩, ⟨3, 1, Wa (Wb .i64) s5.2.1, 0⟩]) (loc2 := [⟨99, 3, [.agg [.int .i64 0, .int .i64 0, .nils]], 0⟩, ⟨99, 3, [.agg [.int .i64 p1, .int .i64 (-1), .sl (n + 2) 0 0 (s5.2.1).length]], 0⟩, ⟨3, 1, Wa (Wb .i64) s5.2.1, 0⟩]) rfl Try.call28 (F_draw_Codes_Range_ok h11 (nd1 na0 nd0) (Zb hB rfl 0 rfl) (Xs (Vl hn) rfl)) (Yk (ps0' := [(q0, ⟨88, 2, [.agg [.vs 1 (Wa (Wb .u8) x10.1.l), .int .i64 x10.1.at_]], w0⟩)]) hB rfl 0 rfl (Yo hn ⟨Vo ⟨.vs _ _, .int _ _, trivial⟩, trivial⟩) rfl Xf) rfl) ?_
    refine Yd rfl rfl (Zp rfl rfl rfl) ?_
    refine Yd rfl rfl (rd_max rfl rfl) ?_
    refine dn1 rfl rfl (nt_of (Yt (es := Wa (Wb .i64) [(max 0 (IntKind.i64.wrap (x8 - x10.2)))]) ⟨rfl, rfl, trivial⟩ rfl rfl (Zm rfl) te_32 ts_3 tz_3 rfl rfl (Wf _) (by decide) (Ym (fun _ => .int _ _)))) ?_
    refine Ya rfl rfl rfl (Zw (f := (Wb .i64)) (l := s5.2.1) (ys := [(max 0 (IntKind.i64.wrap (x8 - x10.2)))]) rfl rfl (Vg (Vl hn) rfl) rfl (src_vs rfl) te_32 ts_3 tb_3 (by decide) tz_3 rfl h13 (Xn (Vl hn) rfl)) ?_
    refine Yd rfl rfl (Vb rfl tf_99_2 ts_32 (by decide)) ?_
    refine Ya rfl rfl rfl (Vw (p := .sl (n + 2) (0 + 1) 0 (x12).length) (e' := .agg [.int .i64 p1, .int .i64 (-1), .sl (n + 2) (0 + 1) 0 (x12).length]) rfl (Vg (Vl hn) rfl) rfl rfl ts_32 rfl (Yg rfl) rfl (We rfl) rfl (Xn (Vl hn) rfl)) ?_
    refine Yx ?_
    refine Vd ?_
    refine Va (Vk rfl) rfl ?_
    refine Va (Zp rfl rfl rfl) rfl ?_
    refine Va (Xv rfl) rfl ?_
    refine Ve ?_
    obtain rfl := Wd hF
    refine Xk ?_
    exact Vm (Vl hn) [(0, 0), (1, 0), (2, 0 + 1)] (by decide) ⟨Vh rfl (.ptr _ _ _ _ hq0), Vt 0 0 rfl rfl, Vt 1 1 rfl rfl, Vh rfl (.int _ _), trivial⟩ ⟨⟨_, rfl, rfl, .same _ _ _ _ (Vn ⟨Vo ⟨.int _ _, .int _ _, .nils, trivial⟩, trivial⟩)⟩, ⟨_, rfl, rfl, .agg _ _ _ _ _ ⟨Vh rfl (.int _ _), Vh rfl (.int _ _), Yc 2 2 rfl rfl, trivial⟩⟩, ⟨_, rfl, rfl, .same _ _ _ _ (Vq (fun _ => .int _ _))⟩, trivial⟩
   ·have hF := Yr c7 hF
    refine Zd ?_
    obtain rfl := Wd hF
    refine Xk ?_
    exact Vp ⟨rfl, rfl, trivial⟩
  ·rintro _ _ _ _ ⟨rfl, hw⟩
   refine ⟨_, _, _, hw, ?_⟩
   refine Vf ?_
   refine Vd ?_
   refine Va (Xa (ds := [.int .i64 p1, .int .i64 (-1), .sl (n + 2) 0 0 (o6.1).length]) rfl (Vg (Vl hn) rfl) rfl ta_99 ts_99 rfl rfl rfl) rfl ?_
   refine Vi (Vw (p := .agg [.int .i64 p1, .int .i64 (-1), .sl (n + 2) 0 0 (o6.1).length]) (e' := .agg [.int .i64 p1, .int .i64 (-1), .sl (n + 2) 0 0 (o6.1).length]) rfl (Vg (Vl hn) rfl) rfl rfl ts_99 rfl (Yg rfl) rfl (We rfl) rfl (Xn (Vl hn) rfl)) rfl ?_
   refine Ve ?_
   refine Yb ?_
   obtain rfl := Wd hF
   refine fnR ?_
   exact Vm (Vl hn) [(2, 0), (0, 0)] (by decide) ⟨Vt 1 0 rfl rfl, trivial⟩ ⟨⟨_, rfl, rfl, .same _ _ _ _ (Vq (fun _ => .int _ _))⟩, ⟨_, rfl, rfl, .agg _ _ _ _ _ ⟨Vh rfl (.int _ _), Vh rfl (.int _ _), Yc 0 2 rfl rfl, trivial⟩⟩, trivial⟩
 ·rintro _ _ _ _ ⟨he, hw⟩
  refine ⟨_, _, _, hw, ?_⟩
  exact bodyQ_some (Vl hn) 1 rfl (We rfl) he [.agg [.int .i64 r.2.Road, .int .i64 r.2.Other, .sl (n + 0) 0 0 (r.2.Rests).length]] ⟨Xa rfl (Vg (Vl hn) rfl) rfl ta_99 ts_99 rfl rfl rfl, trivial⟩ ((Vo ⟨.int _ _, .int _ _, .sl _ _ _ _ (lt_kk rfl), trivial⟩)) ⟨Vq (fun _ => .int _ _), trivial⟩ ⟨rfl, rfl⟩

theorem F_draw_Codes_Door_ok {p0 : T_draw_Codes} {p1 : Int} {r : T_draw_Codes × T_Door} (hF : F_draw_Codes_Door p0 p1 = some r) {low : List AObj} {q0 w0 : Nat} (hnd : [q0].Nodup) (hq0 : low[q0]? = some ⟨88, 2, [.agg [.vs 1 (Wa (Wb .u8) p0.l), .int .i64 p0.at_]], w0⟩) {n : Nat} (hn : low.length = n) :
    Zh Try.prog 44 [.ptr q0 w0 0 0, .int .i64 p1] low fun x low' => x = .agg [.int .i64 r.2.Road, .int .i64 r.2.Other, .sl (n + 0) 0 0 (r.2.Rests).length] ∧ low' = setL low [(q0, ⟨88, 2, [.agg [.vs 1 (Wa (Wb .u8) r.1.l), .int .i64 r.1.at_]], w0⟩)] ++ [⟨3, 1, Wa (Wb .i64) r.2.Rests, 0⟩] := by
  obtain ⟨h1, h2⟩ := bor_start (ps := [(q0, ⟨88, 2, [.agg [.vs 1 (Wa (Wb .u8) p0.l), .int .i64 p0.at_]], w0⟩)]) hnd (borC hq0 bor0)
  exact Zz h1 (F_draw_Codes_Door_ok0 hF h2 hn)

theorem F_draw_Codes_equipped_ok0 {p0 : T_draw_Codes} {p1 : T_Air} {r : T_draw_Codes × T_Air × T_Setting} (hF : F_draw_Codes_equipped p0 p1 = some r) {low0 : List AObj} {q0 q1 q2 q3 q4 w0 w1 w2 w3 w4 : Nat} (hB : Bor low0 [q0, q1, q2, q3, q4]) {m2 : Nat} (hm2 : m2 = (p1.Mine.Roads).length) {m3 : Nat} (hm3 : m3 = (p1.Fans).length) {m4 : Nat} (hm4 : m4 = (p1.Doors).length) {n : Nat} (hn : low0.length = n) :
    Zh Try.prog 38 [.ptr q0 w0 0 0, .ptr q1 w1 0 0] (setL low0 [(q0, ⟨88, 2, [.agg [.vs 1 (Wa (Wb .u8) p0.l), .int .i64 p0.at_]], w0⟩), (q1, ⟨31, 4, [.agg [.vs 2 (Wa T_Place.enc p1.Mine.Places), .sl q2 w2 0 m2, .sl q3 w3 0 m3, .sl q4 w4 0 m4]], w1⟩), (q2, ⟨46, 10, Wa T_Road.enc p1.Mine.Roads, w2⟩), (q3, ⟨72, 4, Wa T_Fan.enc p1.Fans, w3⟩), (q4, ⟨99, 3, Wa T_Door.enc p1.Doors, w4⟩)]) fun x low' => x = .agg [.sl (n + 0) 0 0 (r.2.2.Fans).length, .sl (n + 1) 0 0 (r.2.2.Doors).length] ∧ low' = setL low0 [(q0, ⟨88, 2, [.agg [.vs 1 (Wa (Wb .u8) r.1.l), .int .i64 r.1.at_]], w0⟩), (q1, ⟨31, 4, [.agg [.vs 2 (Wa T_Place.enc r.2.1.Mine.Places), .sl q2 w2 0 m2, .sl q3 (w3 + 1) 0 (r.2.1.Fans).length, .sl q4 (w4 + 1) 0 (r.2.1.Doors).length]], w1⟩), (q2, ⟨46, 10, Wa T_Road.enc r.2.1.Mine.Roads, w2⟩), (q3, ⟨72, 4, Wa T_Fan.enc r.2.1.Fans, w3 + 1⟩), (q4, ⟨99, 3, Wa T_Door.enc r.2.1.Doors, w4 + 1⟩)] ++ [⟨3, 1, Wa (Wb .i64) r.2.2.Fans, 0⟩, ⟨3, 1, Wa (Wb .i64) r.2.2.Doors, 0⟩] := by
 refine vcalls_norm (G := Nat × Nat) (X := fun γ => .agg [.sl (n + 0) 0 0 (r.2.2.Fans).length, .sl (n + 1) 0 0 (r.2.2.Doors).length]) (LW := fun γ => setL low0 [(q0, ⟨88, 2, [.agg [.vs 1 (Wa (Wb .u8) r.1.l), .int .i64 r.1.at_]], w0⟩), (q1, ⟨31, 4, [.agg [.vs 2 (Wa T_Place.enc r.2.1.Mine.Places), .sl q2 w2 0 m2, .sl q3 γ.1 0 (r.2.1.Fans).length, .sl q4 γ.2 0 (r.2.1.Doors).length]], w1⟩), (q2, ⟨46, 10, Wa T_Road.enc r.2.1.Mine.Roads, w2⟩), (q3, ⟨72, 4, Wa T_Fan.enc r.2.1.Fans, γ.1⟩), (q4, ⟨99, 3, Wa T_Door.enc r.2.1.Doors, γ.2⟩)] ++ [⟨3, 1, Wa (Wb .i64) r.2.2.Fans, 0⟩, ⟨3, 1, Wa (Wb .i64) r.2.2.Doors, 0⟩]) ?_ fun γ => ⟨nos_B hB hn rfl rfl rfl ⟨⟨rfl, no_es ⟨.pure _ ((Vo ⟨.vs _ _, .int _ _, trivial⟩)), trivial⟩ (.inl rfl)⟩, ⟨⟨rfl, no_es ⟨nv_agg rfl ⟨.pure _ (.vs _ _), nv_sl (Zb hB rfl 2 rfl) (Zb hB rfl 2 rfl) rfl rfl, nv_sl (Zb hB rfl 3 rfl) (Zb hB rfl 3 rfl) rfl rfl, nv_sl (Zb hB rfl 4 rfl) (Zb hB rfl 4 rfl) rfl rfl, trivial⟩, trivial⟩ (.inl rfl)⟩, ⟨⟨rfl, no_map T_Road.enc_lt (.inl rfl)⟩, ⟨⟨rfl, no_map T_Fan.enc_lt (.inr (ver_up (get_B0 hB rfl 3 rfl) (Nat.lt_succ_self _)))⟩, ⟨⟨rfl, no_map T_Door.enc_lt (.inr (ver_up (get_B0 hB rfl 4 rfl) (Nat.lt_succ_self _)))⟩, trivial⟩⟩⟩⟩⟩ ⟨no_map (fun _ => .int _ _) (.inl rfl), ⟨no_map (fun _ => .int _ _) (.inl rfl), trivial⟩⟩, nv_agg rfl ⟨nv_sl (get_N (Vl hn) rfl) (get_N (Vl hn) rfl) rfl rfl, nv_sl (get_N (Vl hn) rfl) (get_N (Vl hn) rfl) rfl rfl, trivial⟩⟩
 refine Xr (nt := 88) (rs := [.cell 4 62]) Try.func38 rfl rfl (We rfl) rfl ?_
 subst hm3
 subst hm4
 have hq0 : q0 < n := hB.ltN hn 0 rfl
 have hq1 : q1 < n := hB.ltN hn 1 rfl
 have hq2 : q2 < n := hB.ltN hn 2 rfl
 have hq3 : q3 < n := hB.ltN hn 3 rfl
 have hq4 : q4 < n := hB.ltN hn 4 rfl
 refine Vs (Q' := FnE (fun E' lw lc => ∃ g0 g1 : Nat, m2 = (r.2.1.Mine.Roads).length ∧ Xz E' lw lc [(4, .ptr (n + 2) 0 0 0)] (setL low0 [(q0, ⟨88, 2, [.agg [.vs 1 (Wa (Wb .u8) r.1.l), .int .i64 r.1.at_]], w0⟩), (q1, ⟨31, 4, [.agg [.vs 2 (Wa T_Place.enc r.2.1.Mine.Places), .sl q2 w2 0 m2, .sl q3 g0 0 (r.2.1.Fans).length, .sl q4 g1 0 (r.2.1.Doors).length]], w1⟩), (q2, ⟨46, 10, Wa T_Road.enc r.2.1.Mine.Roads, w2⟩), (q3, ⟨72, 4, Wa T_Fan.enc r.2.1.Fans, g0⟩), (q4, ⟨99, 3, Wa T_Door.enc r.2.1.Doors, g1⟩)]) [⟨3, 1, Wa (Wb .i64) r.2.2.Fans, 0⟩, ⟨3, 1, Wa (Wb .i64) r.2.2.Doors, 0⟩, ⟨62, 2, [.agg [.sl (n + 0) 0 0 (r.2.2.Fans).length, .sl (n + 1) 0 0 (r.2.2.Doors).length]], 0⟩])) ?_ ?_
 ·unfold F_draw_Codes_equipped at hF
  refine Vf ?_
  refine Vd ?_
  refine Vi (Xm (Vl hn) rfl tz_62 rfl rfl (Wf _) rfl) rfl ?_
  refine Ve ?_
  refine Vf ?_
  refine Vd ?_
  refine Vi (Xm (Vl hn) rfl tz_62 rfl rfl (Wf _) rfl) rfl ?_
  refine Ve ?_
  refine Vf ?_
  refine Vd ?_
  refine Va (Xg rfl) rfl ?_
  refine Va (Yp rfl) rfl ?_
  refine Va (Vb rfl tf_31_0 ts_27 (by decide)) rfl ?_
  refine Va (Vb rfl tf_27_1 ts_25 (by decide)) rfl ?_
  refine Va (Vj rfl (Ys hB rfl 1 rfl) rfl ta_25 rfl) rfl ?_
  refine Va (Xo (rd_lenS rfl (Ys hB rfl 2 rfl) rfl rfl te_25) (congrArg (fun n : Nat => Wb .i64 (n : Int)) hm2)) rfl ?_
  refine Va (Xv rfl) rfl ?_
  refine Ve ?_
  refine Vf ?_
  refine Vf ?_
  refine Vd ?_
  obtain ⟨x2, h3, hF⟩ := Yf hF
  refine Va (Xg rfl) rfl ?_
  refine Vi (Vz (ps := [(q0, ⟨88, 2, [.agg [.vs 1 (Wa (Wb .u8) x2.1.l), .int .i64 x2.1.at_]], w0⟩)]) (r := .int .i64 x2.2) (os := []) (low1 := (setL low0 [(q0, ⟨88, 2, [.agg [.vs 1 (Wa (Wb .u8) x2.1.l), .int .i64 x2.1.at_]], w0⟩), (q1, ⟨31, 4, [.agg [.vs 2 (Wa T_Place.enc p1.Mine.Places), .sl q2 w2 0 m2, .sl q3 w3 0 (p1.Fans).length, .sl q4 w4 0 (p1.Doors).length]], w1⟩), (q2, ⟨46, 10, Wa T_Road.enc p1.Mine.Roads, w2⟩), (q3, ⟨72, 4, Wa T_Fan.enc p1.Fans, w3⟩), (q4, ⟨99, 3, Wa T_Door.enc p1.Doors, w4⟩)])) (loc1 := [⟨62, 2, [.agg [.nils, .nils]], 0⟩, ⟨62, 2, [.agg [.nils, .nils]], 0⟩]) (loc2 := [⟨62, 2, [.agg [.nils, .nils]], 0⟩, ⟨62, 2, [.agg [.nils, .nils]], 0⟩]) rfl Try.call27 (F_draw_Codes_Next_ok h3 (nd1 na0 nd0) (Zb hB rfl 0 rfl) (Xs (Vl hn) rfl)) (Yk (ps0' := [(q0, ⟨88, 2, [.agg [.vs 1 (Wa (Wb .u8) x2.1.l), .int .i64 x2.1.at_]], w0⟩), (q1, ⟨31, 4, [.agg [.vs 2 (Wa T_Place.enc p1.Mine.Places), .sl q2 w2 0 m2, .sl q3 w3 0 (p1.Fans).length, .sl q4 w4 0 (p1.Doors).length]], w1⟩), (q2, ⟨46, 10, Wa T_Road.enc p1.Mine.Roads, w2⟩), (q3, ⟨72, 4, Wa T_Fan.enc p1.Fans, w3⟩), (q4, ⟨99, 3, Wa T_Door.enc p1.Doors, w4⟩)]) hB rfl 0 rfl (Yo hn ⟨Vo ⟨.vs _ _, .int _ _, trivial⟩, trivial⟩) rfl Xf) rfl) rfl ?_
  refine Va (Xv rfl) rfl ?_
  refine Ve ?_
  refine Xh ?_
  obtain ⟨o5, ho5, hF⟩ := Yf hF
  refine Vs (Yy (F_draw_Codes_equipped_L1 p1) (fun s4 E' lw lc => ∃ wg40 : Nat, Xz E' lw lc [(0, .ptr q0 w0 0 0), (1, .ptr q1 w1 0 0), (4, .ptr (n + 0) 0 0 0), (5, .ptr (n + 1) 0 0 0), (6, .int .i64 ((p1.Mine.Roads).length : Int)), (7, .int .i64 s4.1)] (setL low0 [(q0, ⟨88, 2, [.agg [.vs 1 (Wa (Wb .u8) s4.2.2.1.l), .int .i64 s4.2.2.1.at_]], w0⟩), (q1, ⟨31, 4, [.agg [.vs 2 (Wa T_Place.enc p1.Mine.Places), .sl q2 w2 0 m2, .sl q3 wg40 0 (s4.2.2.2).length, .sl q4 w4 0 (p1.Doors).length]], w1⟩), (q2, ⟨46, 10, Wa T_Road.enc p1.Mine.Roads, w2⟩), (q3, ⟨72, 4, Wa T_Fan.enc s4.2.2.2, wg40⟩), (q4, ⟨99, 3, Wa T_Door.enc p1.Doors, w4⟩)]) [⟨62, 2, [.agg [.nils, .nils]], 0⟩, ⟨62, 2, [.agg [.sl (n + 2) 0 0 (s4.2.1).length, .nils]], 0⟩, ⟨3, 1, Wa (Wb .i64) s4.2.1, 0⟩]) (fun o5 => OnlyE (.exit 0) (fun E' lw lc => ∃ g0 : Nat, Xz E' lw lc [(0, .ptr q0 w0 0 0), (1, .ptr q1 w1 0 0), (4, .ptr (n + 0) 0 0 0), (5, .ptr (n + 1) 0 0 0), (6, .int .i64 ((p1.Mine.Roads).length : Int))] (setL low0 [(q0, ⟨88, 2, [.agg [.vs 1 (Wa (Wb .u8) o5.2.1.l), .int .i64 o5.2.1.at_]], w0⟩), (q1, ⟨31, 4, [.agg [.vs 2 (Wa T_Place.enc p1.Mine.Places), .sl q2 w2 0 m2, .sl q3 g0 0 (o5.2.2).length, .sl q4 w4 0 (p1.Doors).length]], w1⟩), (q2, ⟨46, 10, Wa T_Road.enc p1.Mine.Roads, w2⟩), (q3, ⟨72, 4, Wa T_Fan.enc o5.2.2, g0⟩), (q4, ⟨99, 3, Wa T_Door.enc p1.Doors, w4⟩)]) [⟨62, 2, [.agg [.nils, .nils]], 0⟩, ⟨62, 2, [.agg [.sl (n + 2) 0 0 (o5.1).length, .nils]], 0⟩, ⟨3, 1, Wa (Wb .i64) o5.1, 0⟩])) ho5 ⟨w3, ?_⟩ (by rintro _ _ _ _ ⟨h, _⟩ <;> cases h) ?_) ?_
  ·refine Weak.trans (weak_nil (E' := [(0, .ptr q0 w0 0 0), (1, .ptr q1 w1 0 0), (4, .ptr (n + 0) 0 0 0), (5, .ptr (n + 1) 0 0 0), (6, .int .i64 ((p1.Mine.Roads).length : Int)), (7, .int .i64 x2.2)]) (loc1 := [⟨62, 2, [.agg [.nils, .nils]], 0⟩, ⟨62, 2, [.agg [.sl (n + 2) 0 0 (([] : List Int)).length, .nils]], 0⟩]) (Vl hn) rfl 3 1 (Wf _) ⟨Xb rfl, Xb rfl, Xb rfl, Xb rfl, Xb rfl, Xb rfl, trivial⟩ ⟨.same _, .agg _ _ _ _ _ ⟨nn_nil rfl, Xb rfl, trivial⟩, trivial⟩) ?_
   exact Vp ⟨rfl, rfl, rfl, rfl, rfl, rfl, trivial⟩
  ·rintro s4 os4 _ _ _ hF ⟨wg40, hw⟩
   unfold F_draw_Codes_equipped_L1 at hF
   refine Yl hw ?_
   refine Vf ?_
   refine Vf ?_
   obtain ⟨o6, ho6, hF⟩ := Yf hF
   refine Vs (Q' := (fun o6 => OnlyE .normal (fun E' lw lc => Xz E' lw lc [(0, .ptr q0 w0 0 0), (1, .ptr q1 w1 0 0), (4, .ptr (n + 0) 0 0 0), (5, .ptr (n + 1) 0 0 0), (6, .int .i64 ((p1.Mine.Roads).length : Int)), (7, .int .i64 s4.1), (23, .bool o6)] (setL low0 [(q0, ⟨88, 2, [.agg [.vs 1 (Wa (Wb .u8) s4.2.2.1.l), .int .i64 s4.2.2.1.at_]], w0⟩), (q1, ⟨31, 4, [.agg [.vs 2 (Wa T_Place.enc p1.Mine.Places), .sl q2 w2 0 m2, .sl q3 wg40 0 (s4.2.2.2).length, .sl q4 w4 0 (p1.Doors).length]], w1⟩), (q2, ⟨46, 10, Wa T_Road.enc p1.Mine.Roads, w2⟩), (q3, ⟨72, 4, Wa T_Fan.enc s4.2.2.2, wg40⟩), (q4, ⟨99, 3, Wa T_Door.enc p1.Doors, w4⟩)]) [⟨62, 2, [.agg [.nils, .nils]], 0⟩, ⟨62, 2, [.agg [.sl (n + 2) 0 0 (s4.2.1).length, .nils]], 0⟩, ⟨3, 1, Wa (Wb .i64) s4.2.1, 0⟩])) o6) ?_ ?_
   ·replace hF := ho6
    refine Vd ?_
    rcases Wg (decide (0 < s4.1)) with c7 | c7
    ·have hF := Yq c7 hF
     refine Va (Vk rfl) rfl ?_
     refine Va (Zq rfl rfl) rfl ?_
     refine Va (Vr rfl) rfl ?_
     refine Xd rfl rfl c7 ?_
     refine Va (Vk rfl) rfl ?_
     refine Xd rfl rfl c7 ?_
     refine Va (Zq rfl rfl) rfl ?_
     refine Va (Xc (congrArg Wc c7) rfl) rfl ?_
     refine Ve ?_
     obtain rfl := Wd hF
     refine Xk ?_
     exact Vp ⟨rfl, rfl, rfl, rfl, rfl, rfl, rfl, trivial⟩
    ·have hF := Yr c7 hF
     refine Va (Vk rfl) rfl ?_
     refine Va (Zq rfl rfl) rfl ?_
     refine Va (Vr rfl) rfl ?_
     refine Vc rfl rfl (Ze c7) rfl ?_
     refine Vc rfl rfl (Ze c7) rfl ?_
     refine Va (Vy (congrArg Wc c7) rfl) rfl ?_
     refine Ve ?_
     obtain rfl := Wd hF
     refine Xk ?_
     exact Vp ⟨rfl, rfl, rfl, rfl, rfl, rfl, rfl, trivial⟩
   ·rintro _ _ _ _ ⟨rfl, hw⟩
    refine ⟨_, _, _, hw, ?_⟩
    refine Xi rfl (fun c8 => ?_) (fun c8 => ?_)
    ·have hF := Yq c8 hF
     refine Xj ?_
     refine Vf ?_
     refine Xh ?_
     refine Vf ?_
     obtain ⟨x9, h10, hF⟩ := Yf hF
     obtain ⟨x11, h12, hF⟩ := Yf hF
     obtain ⟨x13, h14, hF⟩ := Yf hF
     obtain ⟨x15, h16, hF⟩ := Yf hF
     obtain ⟨x17, h18, hF⟩ := Yf hF
     refine Zn [[], [], [1], [1, 2], [1, 2, 3], [], [], [5, 6], [], [5, 6, 7, 8], [], [5, 6, 7, 8, 9, 10], [], [5, 6, 7, 8, 9, 10, 11, 12], [5, 6, 7, 8, 9, 10, 11, 12, 13], [5, 6, 7, 8, 9, 10, 11, 12, 13, 14], [1, 2, 3, 4, 5, 6, 7, 8, 9, 10, 11, 12, 13, 14, 15], [0, 1, 2, 3, 4, 5, 6, 7, 8, 9, 10, 11, 12, 13, 14, 15, 16], [0, 1, 2, 3, 4, 5, 6, 7, 8, 9, 10, 11, 12, 13, 14, 15, 16, 17], [0, 1, 2, 3, 4, 5, 6, 7, 8, 9, 10, 11, 12, 13, 14, 15, 16, 17, 18]] [false, false, false, false, false, false, false, true, false, true, false, true, false, true, false, false, true, false, false, true] [((setL low0 [(q0, ⟨88, 2, [.agg [.vs 1 (Wa (Wb .u8) s4.2.2.1.l), .int .i64 s4.2.2.1.at_]], w0⟩), (q1, ⟨31, 4, [.agg [.vs 2 (Wa T_Place.enc p1.Mine.Places), .sl q2 w2 0 m2, .sl q3 wg40 0 (s4.2.2.2).length, .sl q4 w4 0 (p1.Doors).length]], w1⟩), (q2, ⟨46, 10, Wa T_Road.enc p1.Mine.Roads, w2⟩), (q3, ⟨72, 4, Wa T_Fan.enc s4.2.2.2, wg40⟩), (q4, ⟨99, 3, Wa T_Door.enc p1.Doors, w4⟩)]), [⟨62, 2, [.agg [.nils, .nils]], 0⟩, ⟨62, 2, [.agg [.sl (n + 2) 0 0 (s4.2.1).length, .nils]], 0⟩, ⟨3, 1, Wa (Wb .i64) s4.2.1, 0⟩]), ((setL low0 [(q0, ⟨88, 2, [.agg [.vs 1 (Wa (Wb .u8) x9.1.l), .int .i64 x9.1.at_]], w0⟩), (q1, ⟨31, 4, [.agg [.vs 2 (Wa T_Place.enc p1.Mine.Places), .sl q2 w2 0 m2, .sl q3 wg40 0 (s4.2.2.2).length, .sl q4 w4 0 (p1.Doors).length]], w1⟩), (q2, ⟨46, 10, Wa T_Road.enc p1.Mine.Roads, w2⟩), (q3, ⟨72, 4, Wa T_Fan.enc s4.2.2.2, wg40⟩), (q4, ⟨99, 3, Wa T_Door.enc p1.Doors, w4⟩)]), [⟨62, 2, [.agg [.nils, .nils]], 0⟩, ⟨62, 2, [.agg [.sl (n + 2) 0 0 (s4.2.1).length, .nils]], 0⟩, ⟨3, 1, Wa (Wb .i64) s4.2.1, 0⟩]), ((setL low0 [(q0, ⟨88, 2, [.agg [.vs 1 (Wa (Wb .u8) x11.1.l), .int .i64 x11.1.at_]], w0⟩), (q1, ⟨31, 4, [.agg [.vs 2 (Wa T_Place.enc p1.Mine.Places), .sl q2 w2 0 m2, .sl q3 wg40 0 (s4.2.2.2).length, .sl q4 w4 0 (p1.Doors).length]], w1⟩), (q2, ⟨46, 10, Wa T_Road.enc p1.Mine.Roads, w2⟩), (q3, ⟨72, 4, Wa T_Fan.enc s4.2.2.2, wg40⟩), (q4, ⟨99, 3, Wa T_Door.enc p1.Doors, w4⟩)]), [⟨62, 2, [.agg [.nils, .nils]], 0⟩, ⟨62, 2, [.agg [.sl (n + 2) 0 0 (s4.2.1).length, .nils]], 0⟩, ⟨3, 1, Wa (Wb .i64) s4.2.1, 0⟩]), ((setL low0 [(q0, ⟨88, 2, [.agg [.vs 1 (Wa (Wb .u8) x13.1.l), .int .i64 x13.1.at_]], w0⟩), (q1, ⟨31, 4, [.agg [.vs 2 (Wa T_Place.enc p1.Mine.Places), .sl q2 w2 0 m2, .sl q3 wg40 0 (s4.2.2.2).length, .sl q4 w4 0 (p1.Doors).length]], w1⟩), (q2, ⟨46, 10, Wa T_Road.enc p1.Mine.Roads, w2⟩), (q3, ⟨72, 4, Wa T_Fan.enc s4.2.2.2, wg40⟩), (q4, ⟨99, 3, Wa T_Door.enc p1.Doors, w4⟩)]), [⟨62, 2, [.agg [.nils, .nils]], 0⟩, ⟨62, 2, [.agg [.sl (n + 2) 0 0 (s4.2.1).length, .nils]], 0⟩, ⟨3, 1, Wa (Wb .i64) s4.2.1, 0⟩]), ((setL low0 [(q0, ⟨88, 2, [.agg [.vs 1 (Wa (Wb .u8) x15.1.l), .int .i64 x15.1.at_]], w0⟩), (q1, ⟨31, 4, [.agg [.vs 2 (Wa T_Place.enc p1.Mine.Places), .sl q2 w2 0 m2, .sl q3 wg40 0 (s4.2.2.2).length, .sl q4 w4 0 (p1.Doors).length]], w1⟩), (q2, ⟨46, 10, Wa T_Road.enc p1.Mine.Roads, w2⟩), (q3, ⟨72, 4, Wa T_Fan.enc s4.2.2.2, wg40⟩), (q4, ⟨99, 3, Wa T_Door.enc p1.Doors, w4⟩)]), [⟨62, 2, [.agg [.nils, .nils]], 0⟩, ⟨62, 2, [.agg [.sl (n + 2) 0 0 (s4.2.1).length, .nils]], 0⟩, ⟨3, 1, Wa (Wb .i64) s4.2.1, 0⟩]), ((setL low0 [(q0, ⟨88, 2, [.agg [.vs 1 (Wa (Wb .u8) x15.1.l), .int .i64 x15.1.at_]], w0⟩), (q1, ⟨31, 4, [.agg [.vs 2 (Wa T_Place.enc p1.Mine.Places), .sl q2 w2 0 m2, .sl q3 wg40 0 (s4.2.2.2).length, .sl q4 w4 0 (p1.Doors).length]], w1⟩), (q2, ⟨46, 10, Wa T_Road.enc p1.Mine.Roads, w2⟩), (q3, ⟨72, 4, Wa T_Fan.enc x17, wg40 + 1⟩), (q4, ⟨99, 3, Wa T_Door.enc p1.Doors, w4⟩)]), [⟨62, 2, [.agg [.nils, .nils]], 0⟩, ⟨62, 2, [.agg [.sl (n + 2) 0 0 (s4.2.1).length, .nils]], 0⟩, ⟨3, 1, Wa (Wb .i64) s4.2.1, 0⟩]), ((setL low0 [(q0, ⟨88, 2, [.agg [.vs 1 (Wa (Wb .u8) x15.1.l), .int .i64 x15.1.at_]], w0⟩), (q1, ⟨31, 4, [.agg [.vs 2 (Wa T_Place.enc p1.Mine.Places), .sl q2 w2 0 m2, .sl q3 (wg40 + 1) 0 (x17).length, .sl q4 w4 0 (p1.Doors).length]], w1⟩), (q2, ⟨46, 10, Wa T_Road.enc p1.Mine.Roads, w2⟩), (q3, ⟨72, 4, Wa T_Fan.enc x17, wg40 + 1⟩), (q4, ⟨99, 3, Wa T_Door.enc p1.Doors, w4⟩)]), [⟨62, 2, [.agg [.nils, .nils]], 0⟩, ⟨62, 2, [.agg [.sl (n + 2) 0 0 (s4.2.1).length, .nils]], 0⟩, ⟨3, 1, Wa (Wb .i64) s4.2.1, 0⟩])] mixed (by kernel_rfl) rfl (lenAll (Vv Xp (Vv Xp (Vv Xp (Vv Xp (Vv Xp (Vv Xp (Vv Xp Yw)))))))) rfl _ rfl rfl ?_
     refine Vx _ rfl rfl (Vv (VRd.ntl (Xg rfl)) (Vv (VRd.ntl (Xg rfl)) (Vv (VRd.ntl (Xg rfl)) (Vv (VRd.ntl (Xg rfl)) (Vv (VRd.ntl (Xg rfl)) (Vv (VRd.ntl (Xg rfl)) Yw)))))) ?_
     refine Vx _ rfl rfl (Vv (VRd.ntl (Xg rfl)) (Vv (VRd.ntl (Xg rfl)) (Vv (VRd.ntl (Xg rfl)) (Vv (VRd.ntl (Xg rfl)) (Vv (VRd.ntl (Xg rfl)) Yw))))) ?_
     refine Vx _ rfl rfl (Vv (VRd.ntl (Yp rfl)) (Vv (VRd.ntl (Yp rfl)) (Vv (VRd.ntl (Yp rfl)) (Vv (VRd.ntl (Yp rfl)) (Vv (VRd.ntl (Yp rfl)) Yw))))) ?_
     refine Vx _ rfl rfl (Vv (VRd.ntl (Vb rfl tf_31_1 ts_28 (by decide))) (Vv (VRd.ntl (Vb rfl tf_31_1 ts_28 (by decide))) (Vv (VRd.ntl (Vb rfl tf_31_1 ts_28 (by decide))) (Vv (VRd.ntl (Vb rfl tf_31_1 ts_28 (by decide))) (Vv (VRd.ntl (Vb rfl tf_31_1 ts_28 (by decide))) Yw))))) ?_
     refine Vx _ rfl rfl (Vv (VRd.ntl (Vj rfl (Ys hB rfl 1 rfl) rfl ta_28 rfl)) (Vv (VRd.ntl (Vj rfl (Ys hB rfl 1 rfl) rfl ta_28 rfl)) (Vv (VRd.ntl (Vj rfl (Ys hB rfl 1 rfl) rfl ta_28 rfl)) (Vv (VRd.ntl (Vj rfl (Ys hB rfl 1 rfl) rfl ta_28 rfl)) (Vv (VRd.ntl (Vj rfl (Ys hB rfl 1 rfl) rfl ta_28 rfl)) Yw))))) ?_
     refine Yd rfl rfl (Xg rfl) ?_
     refine Yd rfl rfl (Vk rfl) ?_
     refine Ya rfl rfl rfl (Vz (ps := [(q0, ⟨88, 2, [.agg [.vs 1 (Wa (Wb .u8) x9.1.l), .int .i64 x9.1.at_]], w0⟩)]) (r := .int .i64 x9.2) (os := []) (low1 := (setL low0 [(q0, ⟨88, 2, [.agg [.vs 1 (Wa (Wb .u8) x9.1.l), .int .i64 x9.1.at_]], w0⟩), (q1, ⟨31, 4, [.agg [.vs 2 (Wa T_Place.enc p1.Mine.Places), .sl q2 w2 0 m2, .sl q3 wg40 0 (s4.2.2.2).length, .sl q4 w4 0 (p1.Doors).length]], w1⟩), (q2, ⟨46, 10, Wa T_Road.enc p1.Mine.Roads, w2⟩), (q3, ⟨72, 4, Wa T_Fan.enc s4.2.2.2, wg40⟩), (q4, ⟨99, 3, Wa T_Door.enc p1.Doors, w4⟩)])) (loc1 := [⟨62, 2, [.agg [.nils, .nils]], 0⟩, ⟨62, 2, [.agg [.sl (n + 2) 0 0 (s4.2.1).length, .nils]], 0⟩, ⟨3, 1, Wa (Wb .i64) s4.2.1, 0⟩]) (loc2 := [⟨62, 2, [.agg [.nils, .nils]], 0⟩, ⟨62, 2, [.agg [.sl (n + 2) 0 0 (s4.2.1).length, .nils]], 0⟩, ⟨3, 1, Wa (Wb .i64) s4.2.1, 0⟩]) rfl Try.call27 (F_draw_Codes_Next_ok h10 (nd1 na0 nd0) (Zb hB rfl 0 rfl) (Xs (Vl hn) rfl)) (Yk (ps0' := [(q0, ⟨88, 2, [.agg [.vs 1 (Wa (Wb .u8) x9.1.l), .int .i64 x9.1.at_]], w0⟩), (q1, ⟨31, 4, [.agg [.vs 2 (Wa T_Place.enc p1.Mine.Places), .sl q2 w2 0 m2, .sl q3 wg40 0 (s4.2.2.2).length, .sl q4 w4 0 (p1.Doors).length]], w1⟩), (q2, ⟨46, 10, Wa T_Road.enc p1.Mine.Roads, w2⟩), (q3, ⟨72, 4, Wa T_Fan.enc s4.2.2.2, wg40⟩), (q4, ⟨99, 3, Wa T_Door.enc p1.Doors, w4⟩)]) hB rfl 0 rfl (Yo hn ⟨Vo ⟨.vs _ _, .int _ _, trivial⟩, trivial⟩) rfl Xf) rfl) ?_
     refine Vx _ rfl rfl (Vv (VRd.ntl (Xg rfl)) (Vv (VRd.ntl (Xg rfl)) Yw)) ?_
     refine Ya rfl rfl rfl (Vz (ps := [(q0, ⟨88, 2, [.agg [.vs 1 (Wa (Wb .u8) x11.1.l), .int .i64 x11.1.at_]], w0⟩)]) (r := .bool x11.2) (os := []) (low1 := (setL low0 [(q0, ⟨88, 2, [.agg [.vs 1 (Wa (Wb .u8) x11.1.l), .int .i64 x11.1.at_]], w0⟩), (q1, ⟨31, 4, [.agg [.vs 2 (Wa T_Place.enc p1.Mine.Places), .sl q2 w2 0 m2, .sl q3 wg40 0 (s4.2.2.2).length, .sl q4 w4 0 (p1.Doors).length]], w1⟩), (q2, ⟨46, 10, Wa T_Road.enc p1.Mine.Roads, w2⟩), (q3, ⟨72, 4, Wa T_Fan.enc s4.2.2.2, wg40⟩), (q4, ⟨99, 3, Wa T_Door.enc p1.Doors, w4⟩)])) (loc1 := [⟨62, 2, [.agg [.nils, .nils]], 0⟩, ⟨62, 2, [.agg [.sl (n + 2) 0 0 (s4.2.1).length, .nils]], 0⟩, ⟨3, 1, Wa (Wb .i64) s4.2.1, 0⟩]) (loc2 := [⟨62, 2, [.agg [.nils, .nils]], 0⟩, ⟨62, 2, [.agg [.sl (n + 2) 0 0 (s4.2.1).length, .nils]], 0⟩, ⟨3, 1, Wa (Wb .i64) s4.2.1, 0⟩]) rfl Try.call25 (F_draw_Codes_One_ok h12 (nd1 na0 nd0) (Zb hB rfl 0 rfl) (Xs (Vl hn) rfl)) (Yk (ps0' := [(q0, ⟨88, 2, [.agg [.vs 1 (Wa (Wb .u8) x11.1.l), .int .i64 x11.1.at_]], w0⟩), (q1, ⟨31, 4, [.agg [.vs 2 (Wa T_Place.enc p1.Mine.Places), .sl q2 w2 0 m2, .sl q3 wg40 0 (s4.2.2.2).length, .sl q4 w4 0 (p1.Doors).length]], w1⟩), (q2, ⟨46, 10, Wa T_Road.enc p1.Mine.Roads, w2⟩), (q3, ⟨72, 4, Wa T_Fan.enc s4.2.2.2, wg40⟩), (q4, ⟨99, 3, Wa T_Door.enc p1.Doors, w4⟩)]) hB rfl 0 rfl (Yo hn ⟨Vo ⟨.vs _ _, .int _ _, trivial⟩, trivial⟩) rfl Xf) rfl) ?_
     refine Vx _ rfl rfl (Vv (VRd.ntl (Xg rfl)) (Vv (VRd.ntl (Xg rfl)) (Vv (VRd.ntl (Xg rfl)) Yw))) ?_
     refine Ya rfl rfl rfl (Vz (ps := [(q0, ⟨88, 2, [.agg [.vs 1 (Wa (Wb .u8) x13.1.l), .int .i64 x13.1.at_]], w0⟩)]) (r := .bool x13.2) (os := []) (low1 := (setL low0 [(q0, ⟨88, 2, [.agg [.vs 1 (Wa (Wb .u8) x13.1.l), .int .i64 x13.1.at_]], w0⟩), (q1, ⟨31, 4, [.agg [.vs 2 (Wa T_Place.enc p1.Mine.Places), .sl q2 w2 0 m2, .sl q3 wg40 0 (s4.2.2.2).length, .sl q4 w4 0 (p1.Doors).length]], w1⟩), (q2, ⟨46, 10, Wa T_Road.enc p1.Mine.Roads, w2⟩), (q3, ⟨72, 4, Wa T_Fan.enc s4.2.2.2, wg40⟩), (q4, ⟨99, 3, Wa T_Door.enc p1.Doors, w4⟩)])) (loc1 := [⟨62, 2, [.agg [.nils, .nils]], 0⟩, ⟨62, 2, [.agg [.sl (n + 2) 0 0 (s4.2.1).length, .nils]], 0⟩, ⟨3, 1, Wa (Wb .i64) s4.2.1, 0⟩]) (loc2 := [⟨62, 2, [.agg [.nils, .nils]], 0⟩, ⟨62, 2, [.agg [.sl (n + 2) 0 0 (s4.2.1).length, .nils]], 0⟩, ⟨3, 1, Wa (Wb .i64) s4.2.1, 0⟩]) rfl Try.call25 (F_draw_Codes_One_ok h14 (nd1 na0 nd0) (Zb hB rfl 0 rfl) (Xs (Vl hn) rfl)) (Yk (ps0' := [(q0, ⟨88, 2, [.agg [.vs 1 (Wa (Wb .u8) x13.1.l), .int .i64 x13.1.at_]], w0⟩), (q1, ⟨31, 4, [.agg [.vs 2 (Wa T_Place.enc p1.Mine.Places), .sl q2 w2 0 m2, .sl q3 wg40 0 (s4.2.2.2).length, .sl q4 w4 0 (p1.Doors).length]], w1⟩), (q2, ⟨46, 10, Wa T_Road.enc p1.Mine.Roads, w2⟩), (q3, ⟨72, 4, Wa T_Fan.enc s4.2.2.2, wg40⟩), (q4, ⟨99, 3, Wa T_Door.enc p1.Doors, w4⟩)]) hB rfl 0 rfl (Yo hn ⟨Vo ⟨.vs _ _, .int _ _, trivial⟩, trivial⟩) rfl Xf) rfl) ?_
     refine Vx _ rfl rfl (Vv (VRd.ntl (Xg rfl)) (Vv (VRd.ntl (Xg rfl)) (Vv (VRd.ntl (Xg rfl)) (Vv (VRd.ntl (Xg rfl)) Yw)))) ?_
     refine Ya rfl rfl rfl (Vz (ps := [(q0, ⟨88, 2, [.agg [.vs 1 (Wa (Wb .u8) x15.1.l), .int .i64 x15.1.at_]], w0⟩)]) (r := .vs 2 (Wa T_Point.enc x15.2)) (os := []) (low1 := (setL low0 [(q0, ⟨88, 2, [.agg [.vs 1 (Wa (Wb .u8) x15.1.l), .int .i64 x15.1.at_]], w0⟩), (q1, ⟨31, 4, [.agg [.vs 2 (Wa T_Place.enc p1.Mine.Places), .sl q2 w2 0 m2, .sl q3 wg40 0 (s4.2.2.2).length, .sl q4 w4 0 (p1.Doors).length]], w1⟩), (q2, ⟨46, 10, Wa T_Road.enc p1.Mine.Roads, w2⟩), (q3, ⟨72, 4, Wa T_Fan.enc s4.2.2.2, wg40⟩), (q4, ⟨99, 3, Wa T_Door.enc p1.Doors, w4⟩)])) (loc1 := [⟨62, 2, [.agg [.nils, .nils]], 0⟩, ⟨62, 2, [.agg [.sl (n + 2) 0 0 (s4.2.1).length, .nils]], 0⟩, ⟨3, 1, Wa (Wb .i64) s4.2.1, 0⟩]) (loc2 := [⟨62, 2, [.agg [.nils, .nils]], 0⟩, ⟨62, 2, [.agg [.sl (n + 2) 0 0 (s4.2.1).length, .nils]], 0⟩, ⟨3, 1, Wa (Wb .i64) s4.2.1, 0⟩]) rfl Try.call43 (F_draw_Codes_Curve_ok h16 (nd1 na0 nd0) (Zb hB rfl 0 rfl) (Xs (Vl hn) rfl)) (Yk (ps0' := [(q0, ⟨88, 2, [.agg [.vs 1 (Wa (Wb .u8) x15.1.l), .int .i64 x15.1.at_]], w0⟩), (q1, ⟨31, 4, [.agg [.vs 2 (Wa T_Place.enc p1.Mine.Places), .sl q2 w2 0 m2, .sl q3 wg40 0 (s4.2.2.2).length, .sl q4 w4 0 (p1.Doors).length]], w1⟩), (q2, ⟨46, 10, Wa T_Road.enc p1.Mine.Roads, w2⟩), (q3, ⟨72, 4, Wa T_Fan.enc s4.2.2.2, wg40⟩), (q4, ⟨99, 3, Wa T_Door.enc p1.Doors, w4⟩)]) hB rfl 0 rfl (Yo hn ⟨Vo ⟨.vs _ _, .int _ _, trivial⟩, trivial⟩) rfl Xf) rfl) ?_
     refine Yd rfl rfl (Ye (vs := [(0, .int .i64 x9.2), (1, .bool x11.2), (2, .bool x13.2), (3, .vs 2 (Wa T_Point.enc x15.2))]) (ds := [.int .i64 x9.2, .bool x11.2, .bool x13.2, .vs 2 (Wa T_Point.enc x15.2)]) tz_72 rfl rfl tp_72 ⟨rfl, rfl, rfl, rfl, rfl, rfl, rfl, rfl, trivial⟩ (Yh rfl) rfl) ?_
     refine dn1 rfl rfl (nt_of (Yt (es := Wa T_Fan.enc [(T_Fan.mk x9.2 x11.2 x13.2 x15.2)]) ⟨rfl, rfl, trivial⟩ rfl rfl (Zm rfl) te_28 ts_72 tz_72 rfl rfl (Wf _) (by decide) (Ym T_Fan.enc_lt))) ?_
     refine Ya rfl rfl rfl (Zw (f := T_Fan.enc) (l := s4.2.2.2) (ys := [(T_Fan.mk x9.2 x11.2 x13.2 x15.2)]) rfl rfl (Ys hB rfl 3 rfl) rfl (src_vs rfl) te_28 ts_72 tb_72 (by decide) tz_72 rfl h18 (setO_B hB rfl 3 rfl (Vq T_Fan.enc_lt) rfl)) ?_
     refine Yd rfl rfl (Yp rfl) ?_
     refine Yd rfl rfl (Vb rfl tf_31_1 ts_28 (by decide)) ?_
     refine Ya rfl rfl rfl (Vw (p := .sl q3 (wg40 + 1) 0 (x17).length) (e' := .agg [.vs 2 (Wa T_Place.enc p1.Mine.Places), .sl q2 w2 0 m2, .sl q3 (wg40 + 1) 0 (x17).length, .sl q4 w4 0 (p1.Doors).length]) rfl (Ys hB rfl 1 rfl) rfl rfl ts_28 rfl (Yg rfl) rfl (We rfl) rfl (setO_B hB rfl 1 rfl (Yo hn ⟨Vo ⟨.vs _ _, .sl _ _ _ _ hq2, .sl _ _ _ _ hq3, .sl _ _ _ _ hq4, trivial⟩, trivial⟩) rfl)) ?_
     refine Yx ?_
     obtain ⟨x19, h20, hF⟩ := Yf hF
     obtain ⟨x21, h22, hF⟩ := Yf hF
     refine Zn [[], [0], [], [2], [2, 3], [0, 1, 2, 3, 4], [0, 1, 2, 3, 4, 5], [0, 1, 2, 3, 4, 5, 6]] [false, false, false, true, false, true, false, true] [((setL low0 [(q0, ⟨88, 2, [.agg [.vs 1 (Wa (Wb .u8) x15.1.l), .int .i64 x15.1.at_]], w0⟩), (q1, ⟨31, 4, [.agg [.vs 2 (Wa T_Place.enc p1.Mine.Places), .sl q2 w2 0 m2, .sl q3 (wg40 + 1) 0 (x17).length, .sl q4 w4 0 (p1.Doors).length]], w1⟩), (q2, ⟨46, 10, Wa T_Road.enc p1.Mine.Roads, w2⟩), (q3, ⟨72, 4, Wa T_Fan.enc x17, wg40 + 1⟩), (q4, ⟨99, 3, Wa T_Door.enc p1.Doors, w4⟩)]), [⟨62, 2, [.agg [.nils, .nils]], 0⟩, ⟨62, 2, [.agg [.sl (n + 2) 0 0 (s4.2.1).length, .nils]], 0⟩, ⟨3, 1, Wa (Wb .i64) s4.2.1, 0⟩]), ((setL low0 [(q0, ⟨88, 2, [.agg [.vs 1 (Wa (Wb .u8) x19.1.l), .int .i64 x19.1.at_]], w0⟩), (q1, ⟨31, 4, [.agg [.vs 2 (Wa T_Place.enc p1.Mine.Places), .sl q2 w2 0 m2, .sl q3 (wg40 + 1) 0 (x17).length, .sl q4 w4 0 (p1.Doors).length]], w1⟩), (q2, ⟨46, 10, Wa T_Road.enc p1.Mine.Roads, w2⟩), (q3, ⟨72, 4, Wa T_Fan.enc x17, wg40 + 1⟩), (q4, ⟨99, 3, Wa T_Door.enc p1.Doors, w4⟩)]), [⟨62, 2, [.agg [.nils, .nils]], 0⟩, ⟨62, 2, [.agg [.sl (n + 2) 0 0 (s4.2.1).length, .nils]], 0⟩, ⟨3, 1, Wa (Wb .i64) s4.2.1, 0⟩]), ((setL low0 [(q0, ⟨88, 2, [.agg [.vs 1 (Wa (Wb .u8) x19.1.l), .int .i64 x19.1.at_]], w0⟩), (q1, ⟨31, 4, [.agg [.vs 2 (Wa T_Place.enc p1.Mine.Places), .sl q2 w2 0 m2, .sl q3 (wg40 + 1) 0 (x17).length, .sl q4 w4 0 (p1.Doors).length]], w1⟩), (q2, ⟨46, 10, Wa T_Road.enc p1.Mine.Roads, w2⟩), (q3, ⟨72, 4, Wa T_Fan.enc x17, wg40 + 1⟩), (q4, ⟨99, 3, Wa T_Door.enc p1.Doors, w4⟩)]), [⟨62, 2, [.agg [.nils, .nils]], 0⟩, ⟨62, 2, [.agg [.sl (n + 2) 0 0 (s4.2.1).length, .nils]], 0⟩, ⟨3, 1, Wa (Wb .i64) x21, 0 + 1⟩]), ((setL low0 [(q0, ⟨88, 2, [.agg [.vs 1 (Wa (Wb .u8) x19.1.l), .int .i64 x19.1.at_]], w0⟩), (q1, ⟨31, 4, [.agg [.vs 2 (Wa T_Place.enc p1.Mine.Places), .sl q2 w2 0 m2, .sl q3 (wg40 + 1) 0 (x17).length, .sl q4 w4 0 (p1.Doors).length]], w1⟩), (q2, ⟨46, 10, Wa T_Road.enc p1.Mine.Roads, w2⟩), (q3, ⟨72, 4, Wa T_Fan.enc x17, wg40 + 1⟩), (q4, ⟨99, 3, Wa T_Door.enc p1.Doors, w4⟩)]), [⟨62, 2, [.agg [.nils, .nils]], 0⟩, ⟨62, 2, [.agg [.sl (n + 2) (0 + 1) 0 (x21).length, .nils]], 0⟩, ⟨3, 1, Wa (Wb .i64) x21, 0 + 1⟩])] mixed (by kernel_rfl) rfl (lenAll (Vv Xp (Vv Xp (Vv Xp (Vv Xp Yw))))) rfl _ rfl rfl ?_
     refine Vx _ rfl rfl (Vv (VRd.ntl (Vb rfl tf_62_0 ts_32 (by decide))) (Vv (VRd.ntl (Vb rfl tf_62_0 ts_32 (by decide))) Yw)) ?_
     refine Vx _ rfl rfl (Vv (VRd.ntl (Vj rfl (Vg (Vl hn) rfl) rfl ta_32 rfl)) (Vv (VRd.ntl (Vj rfl (Vg (Vl hn) rfl) rfl ta_32 rfl)) Yw)) ?_
     refine Yd rfl rfl (Xg rfl) ?_
     refine Ya rfl rfl rfl (Vz (ps := [(q0, ⟨88, 2, [.agg [.vs 1 (Wa (Wb .u8) x19.1.l), .int .i64 x19.1.at_]], w0⟩)]) (r := .int .i64 x19.2) (os := []) (low1 := (setL low0 [(q0, ⟨88, 2, [.agg [.vs 1 (Wa (Wb .u8) x19.1.l), .int .i64 x19.1.at_]], w0⟩), (q1, ⟨31, 4, [.agg [.vs 2 (Wa T_Place.enc p1.Mine.Places), .sl q2 w2 0 m2, .sl q3 (wg40 + 1) 0 (x17).length, .sl q4 w4 0 (p1.Doors).length]], w1⟩), (q2, ⟨46, 10, Wa T_Road.enc p1.Mine.Roads, w2⟩), (q3, ⟨72, 4, Wa T_Fan.enc x17, wg40 + 1⟩), (q4, ⟨99, 3, Wa T_Door.enc p1.Doors, w4⟩)])) (loc1 := [⟨62, 2, [.agg [.nils, .nils]], 0⟩, ⟨62, 2, [.agg [.sl (n + 2) 0 0 (s4.2.1).length, .nils]], 0⟩, ⟨3, 1, Wa (Wb .i64) s4.2.1, 0⟩]) (loc2 := [⟨62, 2, [.agg [.nils, .nils]], 0⟩, ⟨62, 2, [.agg [.sl (n + 2) 0 0 (s4.2.1).length, .nils]], 0⟩, ⟨3, 1, Wa (Wb .i64) s4.2.1, 0⟩]) rfl Try.call27 (F_draw_Codes_Next_ok h20 (nd1 na0 nd0) (Zb hB rfl 0 rfl) (Xs (Vl hn) rfl)) (Yk (ps0' := [(q0, ⟨88, 2, [.agg [.vs 1 (Wa (Wb .u8) x19.1.l), .int .i64 x19.1.at_]], w0⟩), (q1, ⟨31, 4, [.agg [.vs 2 (Wa T_Place.enc p1.Mine.Places), .sl q2 w2 0 m2, .sl q3 (wg40 + 1) 0 (x17).length, .sl q4 w4 0 (p1.Doors).length]], w1⟩), (q2, ⟨46, 10, Wa T_Road.enc p1.Mine.Roads, w2⟩), (q3, ⟨72, 4, Wa T_Fan.enc x17, wg40 + 1⟩), (q4, ⟨99, 3, Wa T_Door.enc p1.Doors, w4⟩)]) hB rfl 0 rfl (Yo hn ⟨Vo ⟨.vs _ _, .int _ _, trivial⟩, trivial⟩) rfl Xf) rfl) ?_
     refine dn1 rfl rfl (nt_of (Yt (es := Wa (Wb .i64) [x19.2]) ⟨rfl, rfl, trivial⟩ rfl rfl (Zm rfl) te_32 ts_3 tz_3 rfl rfl (Wf _) (by decide) (Ym (fun _ => .int _ _)))) ?_
     refine Ya rfl rfl rfl (Zw (f := (Wb .i64)) (l := s4.2.1) (ys := [x19.2]) rfl rfl (Vg (Vl hn) rfl) rfl (src_vs rfl) te_32 ts_3 tb_3 (by decide) tz_3 rfl h22 (Xn (Vl hn) rfl)) ?_
     refine Yd rfl rfl (Vb rfl tf_62_0 ts_32 (by decide)) ?_
     refine Ya rfl rfl rfl (Vw (p := .sl (n + 2) (0 + 1) 0 (x21).length) (e' := .agg [.sl (n + 2) (0 + 1) 0 (x21).length, .nils]) rfl (Vg (Vl hn) rfl) rfl rfl ts_32 rfl (Yg rfl) rfl (We rfl) rfl (Xn (Vl hn) rfl)) ?_
     refine Yx ?_
     refine Vd ?_
     refine Va (Vk rfl) rfl ?_
     refine Va (Zp rfl rfl rfl) rfl ?_
     refine Va (Xv rfl) rfl ?_
     refine Ve ?_
     obtain rfl := Wd hF
     refine And.intro rfl (Exists.intro (wg40 + 1) ?_)
     exact Vm (Vl hn) [(0, 0), (1, 0), (2, 0 + 1)] (by decide) ⟨Vh rfl (.ptr _ _ _ _ hq0), Vh rfl (.ptr _ _ _ _ hq1), Vt 0 0 rfl rfl, Vt 1 1 rfl rfl, Vh rfl (.int _ _), Vh rfl (.int _ _), trivial⟩ ⟨⟨_, rfl, rfl, .same _ _ _ _ (Vn ⟨Vo ⟨.nils, .nils, trivial⟩, trivial⟩)⟩, ⟨_, rfl, rfl, .agg _ _ _ _ _ ⟨Yc 2 2 rfl rfl, Vh rfl (.nils), trivial⟩⟩, ⟨_, rfl, rfl, .same _ _ _ _ (Vq (fun _ => .int _ _))⟩, trivial⟩
    ·have hF := Yr c8 hF
     refine Zd ?_
     obtain rfl := Wd hF
     refine And.intro rfl (Exists.intro wg40 ?_)
     exact Vp ⟨rfl, rfl, rfl, rfl, rfl, trivial⟩
  ·rintro _ _ _ _ ⟨rfl, g23, hw⟩
   refine ⟨_, _, _, hw, ?_⟩
   refine Vf ?_
   refine Vf ?_
   refine Vd ?_
   obtain ⟨x24, h25, hF⟩ := Yf hF
   refine Va (Xg rfl) rfl ?_
   refine Vi (Vz (ps := [(q0, ⟨88, 2, [.agg [.vs 1 (Wa (Wb .u8) x24.1.l), .int .i64 x24.1.at_]], w0⟩)]) (r := .int .i64 x24.2) (os := []) (low1 := (setL low0 [(q0, ⟨88, 2, [.agg [.vs 1 (Wa (Wb .u8) x24.1.l), .int .i64 x24.1.at_]], w0⟩), (q1, ⟨31, 4, [.agg [.vs 2 (Wa T_Place.enc p1.Mine.Places), .sl q2 w2 0 m2, .sl q3 g23 0 (o5.2.2).length, .sl q4 w4 0 (p1.Doors).length]], w1⟩), (q2, ⟨46, 10, Wa T_Road.enc p1.Mine.Roads, w2⟩), (q3, ⟨72, 4, Wa T_Fan.enc o5.2.2, g23⟩), (q4, ⟨99, 3, Wa T_Door.enc p1.Doors, w4⟩)])) (loc1 := [⟨62, 2, [.agg [.nils, .nils]], 0⟩, ⟨62, 2, [.agg [.sl (n + 2) 0 0 (o5.1).length, .nils]], 0⟩, ⟨3, 1, Wa (Wb .i64) o5.1, 0⟩]) (loc2 := [⟨62, 2, [.agg [.nils, .nils]], 0⟩, ⟨62, 2, [.agg [.sl (n + 2) 0 0 (o5.1).length, .nils]], 0⟩, ⟨3, 1, Wa (Wb .i64) o5.1, 0⟩]) rfl Try.call27 (F_draw_Codes_Next_ok h25 (nd1 na0 nd0) (Zb hB rfl 0 rfl) (Xs (Vl hn) rfl)) (Yk (ps0' := [(q0, ⟨88, 2, [.agg [.vs 1 (Wa (Wb .u8) x24.1.l), .int .i64 x24.1.at_]], w0⟩), (q1, ⟨31, 4, [.agg [.vs 2 (Wa T_Place.enc p1.Mine.Places), .sl q2 w2 0 m2, .sl q3 g23 0 (o5.2.2).length, .sl q4 w4 0 (p1.Doors).length]], w1⟩), (q2, ⟨46, 10, Wa T_Road.enc p1.Mine.Roads, w2⟩), (q3, ⟨72, 4, Wa T_Fan.enc o5.2.2, g23⟩), (q4, ⟨99, 3, Wa T_Door.enc p1.Doors, w4⟩)]) hB rfl 0 rfl (Yo hn ⟨Vo ⟨.vs _ _, .int _ _, trivial⟩, trivial⟩) rfl Xf) rfl) rfl ?_
   refine Va (Xv rfl) rfl ?_
   refine Ve ?_
   refine Xh ?_
   obtain ⟨o27, ho27, hF⟩ := Yf hF
   refine Vs (Yy (F_draw_Codes_equipped_L2 p1) (fun s26 E' lw lc => ∃ wg260 : Nat, Xz E' lw lc [(0, .ptr q0 w0 0 0), (1, .ptr q1 w1 0 0), (4, .ptr (n + 0) 0 0 0), (5, .ptr (n + 1) 0 0 0), (6, .int .i64 ((p1.Mine.Roads).length : Int)), (8, .int .i64 s26.1)] (setL low0 [(q0, ⟨88, 2, [.agg [.vs 1 (Wa (Wb .u8) s26.2.2.1.l), .int .i64 s26.2.2.1.at_]], w0⟩), (q1, ⟨31, 4, [.agg [.vs 2 (Wa T_Place.enc p1.Mine.Places), .sl q2 w2 0 m2, .sl q3 g23 0 (o5.2.2).length, .sl q4 wg260 0 (s26.2.2.2).length]], w1⟩), (q2, ⟨46, 10, Wa T_Road.enc p1.Mine.Roads, w2⟩), (q3, ⟨72, 4, Wa T_Fan.enc o5.2.2, g23⟩), (q4, ⟨99, 3, Wa T_Door.enc s26.2.2.2, wg260⟩)]) [⟨62, 2, [.agg [.nils, .nils]], 0⟩, ⟨62, 2, [.agg [.sl (n + 2) 0 0 (s26.2.1.Fans).length, .sl (n + 3) 0 0 (s26.2.1.Doors).length]], 0⟩, ⟨3, 1, Wa (Wb .i64) s26.2.1.Fans, 0⟩, ⟨3, 1, Wa (Wb .i64) s26.2.1.Doors, 0⟩]) (fun o27 => OnlyE (.exit 2) (fun E' lw lc => ∃ g0 : Nat, Xz E' lw lc [(4, .ptr (n + 0) 0 0 0), (5, .ptr (n + 1) 0 0 0)] (setL low0 [(q0, ⟨88, 2, [.agg [.vs 1 (Wa (Wb .u8) o27.2.1.l), .int .i64 o27.2.1.at_]], w0⟩), (q1, ⟨31, 4, [.agg [.vs 2 (Wa T_Place.enc p1.Mine.Places), .sl q2 w2 0 m2, .sl q3 g23 0 (o5.2.2).length, .sl q4 g0 0 (o27.2.2).length]], w1⟩), (q2, ⟨46, 10, Wa T_Road.enc p1.Mine.Roads, w2⟩), (q3, ⟨72, 4, Wa T_Fan.enc o5.2.2, g23⟩), (q4, ⟨99, 3, Wa T_Door.enc o27.2.2, g0⟩)]) [⟨62, 2, [.agg [.nils, .nils]], 0⟩, ⟨62, 2, [.agg [.sl (n + 2) 0 0 (o27.1.Fans).length, .sl (n + 3) 0 0 (o27.1.Doors).length]], 0⟩, ⟨3, 1, Wa (Wb .i64) o27.1.Fans, 0⟩, ⟨3, 1, Wa (Wb .i64) o27.1.Doors, 0⟩])) ho27 ⟨w4, ?_⟩ (by rintro _ _ _ _ ⟨h, _⟩ <;> cases h) ?_) ?_
   ·refine Weak.trans (weak_nil (E' := [(0, .ptr q0 w0 0 0), (1, .ptr q1 w1 0 0), (4, .ptr (n + 0) 0 0 0), (5, .ptr (n + 1) 0 0 0), (6, .int .i64 ((p1.Mine.Roads).length : Int)), (8, .int .i64 x24.2)]) (loc1 := [⟨62, 2, [.agg [.nils, .nils]], 0⟩, ⟨62, 2, [.agg [.sl (n + 2) 0 0 (o5.1).length, .sl (n + 3) 0 0 (([] : List Int)).length]], 0⟩, ⟨3, 1, Wa (Wb .i64) o5.1, 0⟩]) (Vl hn) rfl 3 1 (Wf _) ⟨Xb rfl, Xb rfl, Xb rfl, Xb rfl, Xb rfl, Xb rfl, trivial⟩ ⟨.same _, .agg _ _ _ _ _ ⟨Xb rfl, nn_nil rfl, trivial⟩, .same _, trivial⟩) ?_
    exact Vp ⟨rfl, rfl, rfl, rfl, rfl, rfl, trivial⟩
   ·rintro s26 os26 _ _ _ hF ⟨wg260, hw⟩
    unfold F_draw_Codes_equipped_L2 at hF
    refine Yl hw ?_
    refine Vf ?_
    refine Vf ?_
    obtain ⟨o28, ho28, hF⟩ := Yf hF
    refine Vs (Q' := (fun o28 => OnlyE .normal (fun E' lw lc => Xz E' lw lc [(0, .ptr q0 w0 0 0), (1, .ptr q1 w1 0 0), (4, .ptr (n + 0) 0 0 0), (5, .ptr (n + 1) 0 0 0), (6, .int .i64 ((p1.Mine.Roads).length : Int)), (8, .int .i64 s26.1), (59, .bool o28.1)] (setL low0 [(q0, ⟨88, 2, [.agg [.vs 1 (Wa (Wb .u8) s26.2.2.1.l), .int .i64 s26.2.2.1.at_]], w0⟩), (q1, ⟨31, 4, [.agg [.vs 2 (Wa T_Place.enc p1.Mine.Places), .sl q2 w2 0 m2, .sl q3 g23 0 (o5.2.2).length, .sl q4 wg260 0 (s26.2.2.2).length]], w1⟩), (q2, ⟨46, 10, Wa T_Road.enc p1.Mine.Roads, w2⟩), (q3, ⟨72, 4, Wa T_Fan.enc o5.2.2, g23⟩), (q4, ⟨99, 3, Wa T_Door.enc s26.2.2.2, wg260⟩)]) [⟨62, 2, [.agg [.nils, .nils]], 0⟩, ⟨62, 2, [.agg [.sl (n + 2) 0 0 (o28.2.Fans).length, .sl (n + 3) 0 0 (o28.2.Doors).length]], 0⟩, ⟨3, 1, Wa (Wb .i64) o28.2.Fans, 0⟩, ⟨3, 1, Wa (Wb .i64) o28.2.Doors, 0⟩])) o28) ?_ ?_
    ·replace hF := ho28
     refine Vd ?_
     rcases Wg (decide (0 < s26.1)) with c29 | c29
     ·have hF := Yq c29 hF
      refine Va (Vk rfl) rfl ?_
      refine Va (Zq rfl rfl) rfl ?_
      refine Va (Vr rfl) rfl ?_
      refine Xd rfl rfl c29 ?_
      refine Va (Vk rfl) rfl ?_
      refine Xd rfl rfl c29 ?_
      refine Va (Zq rfl rfl) rfl ?_
      refine Va (Xc (congrArg Wc c29) rfl) rfl ?_
      refine Ve ?_
      obtain rfl := Wd hF
      refine Xk ?_
      exact Vp ⟨rfl, rfl, rfl, rfl, rfl, rfl, rfl, trivial⟩
     ·have hF := Yr c29 hF
      refine Va (Vk rfl) rfl ?_
      refine Va (Zq rfl rfl) rfl ?_
      refine Va (Vr rfl) rfl ?_
      refine Vc rfl rfl (Ze c29) rfl ?_
      refine Vc rfl rfl (Ze c29) rfl ?_
      refine Va (Vy (congrArg Wc c29) rfl) rfl ?_
      refine Ve ?_
      obtain rfl := Wd hF
      refine Xk ?_
      exact Vp ⟨rfl, rfl, rfl, rfl, rfl, rfl, rfl, trivial⟩
    ·rintro _ _ _ _ ⟨rfl, hw⟩
     refine ⟨_, _, _, hw, ?_⟩
     refine Xi rfl (fun c30 => ?_) (fun c30 => ?_)
     ·have hF := Yq c30 hF
      refine Xj ?_
      refine Vf ?_
      refine Xh ?_
      refine Vf ?_
      refine Vd ?_
      obtain ⟨x31, h32, hF⟩ := Yf hF
      obtain ⟨x33, h34, hF⟩ := Yf hF
      refine Va (Xg rfl) rfl ?_
      refine Va (Xg rfl) rfl ?_
      refine Va (Vk rfl) rfl ?_
      refine Vi (Vz (ps := [(q0, ⟨88, 2, [.agg [.vs 1 (Wa (Wb .u8) x31.1.l), .int .i64 x31.1.at_]], w0⟩)]) (r := .int .i64 x31.2) (os := []) (low1 := (setL low0 [(q0, ⟨88, 2, [.agg [.vs 1 (Wa (Wb .u8) x31.1.l), .int .i64 x31.1.at_]], w0⟩), (q1, ⟨31, 4, [.agg [.vs 2 (Wa T_Place.enc p1.Mine.Places), .sl q2 w2 0 m2, .sl q3 g23 0 (o5.2.2).length, .sl q4 wg260 0 (s26.2.2.2).length]], w1⟩), (q2, ⟨46, 10, Wa T_Road.enc p1.Mine.Roads, w2⟩), (q3, ⟨72, 4, Wa T_Fan.enc o5.2.2, g23⟩), (q4, ⟨99, 3, Wa T_Door.enc s26.2.2.2, wg260⟩)])) (loc1 := [⟨62, 2, [.agg [.nils, .nils]], 0⟩, ⟨62, 2, [.agg [.sl (n + 2) 0 0 (o28.2.Fans).length, .sl (n + 3) 0 0 (o28.2.Doors).length]], 0⟩, ⟨3, 1, Wa (Wb .i64) o28.2.Fans, 0⟩, ⟨3, 1, Wa (Wb .i64) o28.2.Doors, 0⟩]) (loc2 := [⟨62, 2, [.agg [.nils, .nils]], 0⟩, ⟨62, 2, [.agg [.sl (n + 2) 0 0 (o28.2.Fans).length, .sl (n + 3) 0 0 (o28.2.Doors).length]], 0⟩, ⟨3, 1, Wa (Wb .i64) o28.2.Fans, 0⟩, ⟨3, 1, Wa (Wb .i64) o28.2.Doors, 0⟩]) rfl Try.call27 (F_draw_Codes_Next_ok h32 (nd1 na0 nd0) (Zb hB rfl 0 rfl) (Xs (Vl hn) rfl)) (Yk (ps0' := [(q0, ⟨88, 2, [.agg [.vs 1 (Wa (Wb .u8) x31.1.l), .int .i64 x31.1.at_]], w0⟩), (q1, ⟨31, 4, [.agg [.vs 2 (Wa T_Place.enc p1.Mine.Places), .sl q2 w2 0 m2, .sl q3 g23 0 (o5.2.2).length, .sl q4 wg260 0 (s26.2.2.2).length]], w1⟩), (q2, ⟨46, 10, Wa T_Road.enc p1.Mine.Roads, w2⟩), (q3, ⟨72, 4, Wa T_Fan.enc o5.2.2, g23⟩), (q4, ⟨99, 3, Wa T_Door.enc s26.2.2.2, wg260⟩)]) hB rfl 0 rfl (Yo hn ⟨Vo ⟨.vs _ _, .int _ _, trivial⟩, trivial⟩) rfl Xf) rfl) rfl ?_
      refine Vi (Vz (ps := [(q0, ⟨88, 2, [.agg [.vs 1 (Wa (Wb .u8) x33.1.l), .int .i64 x33.1.at_]], w0⟩)]) (r := .agg [.int .i64 x33.2.Road, .int .i64 x33.2.Other, .sl (n + 4) 0 0 (x33.2.Rests).length]) (os := [⟨3, 1, Wa (Wb .i64) x33.2.Rests, 0⟩]) (low1 := (setL low0 [(q0, ⟨88, 2, [.agg [.vs 1 (Wa (Wb .u8) x33.1.l), .int .i64 x33.1.at_]], w0⟩), (q1, ⟨31, 4, [.agg [.vs 2 (Wa T_Place.enc p1.Mine.Places), .sl q2 w2 0 m2, .sl q3 g23 0 (o5.2.2).length, .sl q4 wg260 0 (s26.2.2.2).length]], w1⟩), (q2, ⟨46, 10, Wa T_Road.enc p1.Mine.Roads, w2⟩), (q3, ⟨72, 4, Wa T_Fan.enc o5.2.2, g23⟩), (q4, ⟨99, 3, Wa T_Door.enc s26.2.2.2, wg260⟩)])) (loc1 := [⟨62, 2, [.agg [.nils, .nils]], 0⟩, ⟨62, 2, [.agg [.sl (n + 2) 0 0 (o28.2.Fans).length, .sl (n + 3) 0 0 (o28.2.Doors).length]], 0⟩, ⟨3, 1, Wa (Wb .i64) o28.2.Fans, 0⟩, ⟨3, 1, Wa (Wb .i64) o28.2.Doors, 0⟩]) (loc2 := [⟨62, 2, [.agg [.nils, .nils]], 0⟩, ⟨62, 2, [.agg [.sl (n + 2) 0 0 (o28.2.Fans).length, .sl (n + 3) 0 0 (o28.2.Doors).length]], 0⟩, ⟨3, 1, Wa (Wb .i64) o28.2.Fans, 0⟩, ⟨3, 1, Wa (Wb .i64) o28.2.Doors, 0⟩, ⟨3, 1, Wa (Wb .i64) x33.2.Rests, 0⟩]) rfl Try.call44 (F_draw_Codes_Door_ok h34 (nd1 na0 nd0) (Zb hB rfl 0 rfl) (Xs (Vl hn) rfl)) (Yk (ps0' := [(q0, ⟨88, 2, [.agg [.vs 1 (Wa (Wb .u8) x33.1.l), .int .i64 x33.1.at_]], w0⟩), (q1, ⟨31, 4, [.agg [.vs 2 (Wa T_Place.enc p1.Mine.Places), .sl q2 w2 0 m2, .sl q3 g23 0 (o5.2.2).length, .sl q4 wg260 0 (s26.2.2.2).length]], w1⟩), (q2, ⟨46, 10, Wa T_Road.enc p1.Mine.Roads, w2⟩), (q3, ⟨72, 4, Wa T_Fan.enc o5.2.2, g23⟩), (q4, ⟨99, 3, Wa T_Door.enc s26.2.2.2, wg260⟩)]) hB rfl 0 rfl (Yo hn ⟨Vo ⟨.vs _ _, .int _ _, trivial⟩, trivial⟩) rfl Xf) rfl) rfl ?_
      refine Vi (Xm (Vl hn) rfl tz_99 rfl rfl (Wf _) rfl) rfl ?_
      refine Vi (Vw (p := .agg [.int .i64 x33.2.Road, .int .i64 x33.2.Other, .sl (n + 4) 0 0 (x33.2.Rests).length]) (e' := .agg [.int .i64 x33.2.Road, .int .i64 x33.2.Other, .sl (n + 4) 0 0 (x33.2.Rests).length]) rfl (Vg (Vl hn) rfl) rfl rfl ts_99 rfl (Yg rfl) rfl (We rfl) rfl (Xn (Vl hn) rfl)) rfl ?_
      refine Ve ?_
      refine Vf ?_
      refine Yl (Yv (E' := [(0, .ptr q0 w0 0 0), (1, .ptr q1 w1 0 0), (4, .ptr (n + 0) 0 0 0), (5, .ptr (n + 1) 0 0 0), (6, .int .i64 ((p1.Mine.Roads).length : Int)), (8, .int .i64 s26.1), (9, .ptr (n + 5) 0 0 0)]) (loc1 := [⟨62, 2, [.agg [.nils, .nils]], 0⟩, ⟨62, 2, [.agg [.sl (n + 2) 0 0 (o28.2.Fans).length, .sl (n + 3) 0 0 (o28.2.Doors).length]], 0⟩, ⟨3, 1, Wa (Wb .i64) o28.2.Fans, 0⟩, ⟨3, 1, Wa (Wb .i64) o28.2.Doors, 0⟩, ⟨3, 1, [], 0 + 1⟩, ⟨99, 3, [.agg [.int .i64 x33.2.Road, .int .i64 x33.2.Other, .vs 1 (Wa (Wb .i64) x33.2.Rests)]], 0⟩]) (Vl hn) 4 rfl (Ym (fun _ => .int _ _)) ⟨Vu rfl, Vu rfl, Vu rfl, Vu rfl, Vu rfl, Vu rfl, Vu rfl, trivial⟩ ⟨.refl _, .refl _, .refl _, .refl _, .refl _, cvo_agg ⟨Vu rfl, Vu rfl, cv_sl rfl rfl rfl (Zj rfl), trivial⟩, trivial⟩) ?_
      obtain ⟨x35, h36, hF⟩ := Yf hF
      refine Zn [[], [], [1], [1, 2], [1, 2, 3], [], [5], [1, 2, 3, 4, 5, 6], [0, 1, 2, 3, 4, 5, 6, 7], [0, 1, 2, 3, 4, 5, 6, 7, 8], [0, 1, 2, 3, 4, 5, 6, 7, 8, 9]] [false, false, false, false, false, false, false, true, false, false, true] [((setL low0 [(q0, ⟨88, 2, [.agg [.vs 1 (Wa (Wb .u8) x33.1.l), .int .i64 x33.1.at_]], w0⟩), (q1, ⟨31, 4, [.agg [.vs 2 (Wa T_Place.enc p1.Mine.Places), .sl q2 w2 0 m2, .sl q3 g23 0 (o5.2.2).length, .sl q4 wg260 0 (s26.2.2.2).length]], w1⟩), (q2, ⟨46, 10, Wa T_Road.enc p1.Mine.Roads, w2⟩), (q3, ⟨72, 4, Wa T_Fan.enc o5.2.2, g23⟩), (q4, ⟨99, 3, Wa T_Door.enc s26.2.2.2, wg260⟩)]), [⟨62, 2, [.agg [.nils, .nils]], 0⟩, ⟨62, 2, [.agg [.sl (n + 2) 0 0 (o28.2.Fans).length, .sl (n + 3) 0 0 (o28.2.Doors).length]], 0⟩, ⟨3, 1, Wa (Wb .i64) o28.2.Fans, 0⟩, ⟨3, 1, Wa (Wb .i64) o28.2.Doors, 0⟩, ⟨3, 1, [], 0 + 1⟩, ⟨99, 3, [.agg [.int .i64 x33.2.Road, .int .i64 x33.2.Other, .vs 1 (Wa (Wb .i64) x33.2.Rests)]], 0⟩]), ((setL low0 [(q0, ⟨88, 2, [.agg [.vs 1 (Wa (Wb .u8) x33.1.l), .int .i64 x33.1.at_]], w0⟩), (q1, ⟨31, 4, [.agg [.vs 2 (Wa T_Place.enc p1.Mine.Places), .sl q2 w2 0 m2, .sl q3 g23 0 (o5.2.2).length, .sl q4 wg260 0 (s26.2.2.2).length]], w1⟩), (q2, ⟨46, 10, Wa T_Road.enc p1.Mine.Roads, w2⟩), (q3, ⟨72, 4, Wa T_Fan.enc o5.2.2, g23⟩), (q4, ⟨99, 3, Wa T_Door.enc x35, wg260 + 1⟩)]), [⟨62, 2, [.agg [.nils, .nils]], 0⟩, ⟨62, 2, [.agg [.sl (n + 2) 0 0 (o28.2.Fans).length, .sl (n + 3) 0 0 (o28.2.Doors).length]], 0⟩, ⟨3, 1, Wa (Wb .i64) o28.2.Fans, 0⟩, ⟨3, 1, Wa (Wb .i64) o28.2.Doors, 0⟩, ⟨3, 1, [], 0 + 1⟩, ⟨99, 3, [.agg [.int .i64 x33.2.Road, .int .i64 x33.2.Other, .vs 1 (Wa (Wb .i64) x33.2.Rests)]], 0⟩]), ((setL low0 [(q0, ⟨88, 2, [.agg [.vs 1 (Wa (Wb .u8) x33.1.l), .int .i64 x33.1.at_]], w0⟩), (q1, ⟨31, 4, [.agg [.vs 2 (Wa T_Place.enc p1.Mine.Places), .sl q2 w2 0 m2, .sl q3 g23 0 (o5.2.2).length, .sl q4 (wg260 + 1) 0 (x35).length]], w1⟩), (q2, ⟨46, 10, Wa T_Road.enc p1.Mine.Roads, w2⟩), (q3, ⟨72, 4, Wa T_Fan.enc o5.2.2, g23⟩), (q4, ⟨99, 3, Wa T_Door.enc x35, wg260 + 1⟩)]), [⟨62, 2, [.agg [.nils, .nils]], 0⟩, ⟨62, 2, [.agg [.sl (n + 2) 0 0 (o28.2.Fans).length, .sl (n + 3) 0 0 (o28.2.Doors).length]], 0⟩, ⟨3, 1, Wa (Wb .i64) o28.2.Fans, 0⟩, ⟨3, 1, Wa (Wb .i64) o28.2.Doors, 0⟩, ⟨3, 1, [], 0 + 1⟩, ⟨99, 3, [.agg [.int .i64 x33.2.Road, .int .i64 x33.2.Other, .vs 1 (Wa (Wb .i64) x33.2.Rests)]], 0⟩])] mixed (by kernel_rfl) rfl (lenAll (Vv Xp (Vv Xp (Vv Xp Yw)))) rfl _ rfl rfl ?_
      refine Vx _ rfl rfl (Vv (VRd.ntl (Xg rfl)) (Vv (VRd.ntl (Xg rfl)) Yw)) ?_
      refine Yd rfl rfl (Xg rfl) ?_
      refine Yd rfl rfl (Yp rfl) ?_
      refine Yd rfl rfl (Vb rfl tf_31_2 ts_29 (by decide)) ?_
      refine Yd rfl rfl (Vj rfl (Ys hB rfl 1 rfl) rfl ta_29 rfl) ?_
      refine Yd rfl rfl (Xa (ds := [.int .i64 x33.2.Road, .int .i64 x33.2.Other, .vs 1 (Wa (Wb .i64) x33.2.Rests)]) rfl (Vg (Vl hn) rfl) rfl ta_99 ts_99 rfl rfl rfl) ?_
      refine dn1 rfl rfl (nt_of (Yt (es := Wa T_Door.enc [x33.2]) ⟨rfl, rfl, trivial⟩ rfl rfl (Zm rfl) te_29 ts_99 tz_99 rfl rfl (Wf _) (by decide) (Ym T_Door.enc_lt))) ?_
      refine Ya rfl rfl rfl (Zw (f := T_Door.enc) (l := s26.2.2.2) (ys := [x33.2]) rfl rfl (Ys hB rfl 4 rfl) rfl (src_vs rfl) te_29 ts_99 tb_99 (by decide) tz_99 rfl h36 (setO_B hB rfl 4 rfl (Vq T_Door.enc_lt) rfl)) ?_
      refine Yd rfl rfl (Yp rfl) ?_
      refine Yd rfl rfl (Vb rfl tf_31_2 ts_29 (by decide)) ?_
      refine Ya rfl rfl rfl (Vw (p := .sl q4 (wg260 + 1) 0 (x35).length) (e' := .agg [.vs 2 (Wa T_Place.enc p1.Mine.Places), .sl q2 w2 0 m2, .sl q3 g23 0 (o5.2.2).length, .sl q4 (wg260 + 1) 0 (x35).length]) rfl (Ys hB rfl 1 rfl) rfl rfl ts_29 rfl (Yg rfl) rfl (We rfl) rfl (setO_B hB rfl 1 rfl (Yo hn ⟨Vo ⟨.vs _ _, .sl _ _ _ _ hq2, .sl _ _ _ _ hq3, .sl _ _ _ _ hq4, trivial⟩, trivial⟩) rfl)) ?_
      refine Yx ?_
      obtain ⟨x37, h38, hF⟩ := Yf hF
      obtain ⟨x39, h40, hF⟩ := Yf hF
      refine Zn [[], [0], [], [], [3], [3, 4], [2, 3, 4, 5], [2, 3, 4, 5, 6], [0, 1, 2, 3, 4, 5, 6, 7], [0, 1, 2, 3, 4, 5, 6, 7, 8], [0, 1, 2, 3, 4, 5, 6, 7, 8, 9]] [false, false, false, false, false, false, true, false, true, false, true] [((setL low0 [(q0, ⟨88, 2, [.agg [.vs 1 (Wa (Wb .u8) x33.1.l), .int .i64 x33.1.at_]], w0⟩), (q1, ⟨31, 4, [.agg [.vs 2 (Wa T_Place.enc p1.Mine.Places), .sl q2 w2 0 m2, .sl q3 g23 0 (o5.2.2).length, .sl q4 (wg260 + 1) 0 (x35).length]], w1⟩), (q2, ⟨46, 10, Wa T_Road.enc p1.Mine.Roads, w2⟩), (q3, ⟨72, 4, Wa T_Fan.enc o5.2.2, g23⟩), (q4, ⟨99, 3, Wa T_Door.enc x35, wg260 + 1⟩)]), [⟨62, 2, [.agg [.nils, .nils]], 0⟩, ⟨62, 2, [.agg [.sl (n + 2) 0 0 (o28.2.Fans).length, .sl (n + 3) 0 0 (o28.2.Doors).length]], 0⟩, ⟨3, 1, Wa (Wb .i64) o28.2.Fans, 0⟩, ⟨3, 1, Wa (Wb .i64) o28.2.Doors, 0⟩, ⟨3, 1, [], 0 + 1⟩, ⟨99, 3, [.agg [.int .i64 x33.2.Road, .int .i64 x33.2.Other, .vs 1 (Wa (Wb .i64) x33.2.Rests)]], 0⟩]), ((setL low0 [(q0, ⟨88, 2, [.agg [.vs 1 (Wa (Wb .u8) x37.1.l), .int .i64 x37.1.at_]], w0⟩), (q1, ⟨31, 4, [.agg [.vs 2 (Wa T_Place.enc p1.Mine.Places), .sl q2 w2 0 m2, .sl q3 g23 0 (o5.2.2).length, .sl q4 (wg260 + 1) 0 (x35).length]], w1⟩), (q2, ⟨46, 10, Wa T_Road.enc p1.Mine.Roads, w2⟩), (q3, ⟨72, 4, Wa T_Fan.enc o5.2.2, g23⟩), (q4, ⟨99, 3, Wa T_Door.enc x35, wg260 + 1⟩)]), [⟨62, 2, [.agg [.nils, .nils]], 0⟩, ⟨62, 2, [.agg [.sl (n + 2) 0 0 (o28.2.Fans).length, .sl (n + 3) 0 0 (o28.2.Doors).length]], 0⟩, ⟨3, 1, Wa (Wb .i64) o28.2.Fans, 0⟩, ⟨3, 1, Wa (Wb .i64) o28.2.Doors, 0⟩, ⟨3, 1, [], 0 + 1⟩, ⟨99, 3, [.agg [.int .i64 x33.2.Road, .int .i64 x33.2.Other, .vs 1 (Wa (Wb .i64) x33.2.Rests)]], 0⟩]), ((setL low0 [(q0, ⟨88, 2, [.agg [.vs 1 (Wa (Wb .u8) x37.1.l), .int .i64 x37.1.at_]], w0⟩), (q1, ⟨31, 4, [.agg [.vs 2 (Wa T_Place.enc p1.Mine.Places), .sl q2 w2 0 m2, .sl q3 g23 0 (o5.2.2).length, .sl q4 (wg260 + 1) 0 (x35).length]], w1⟩), (q2, ⟨46, 10, Wa T_Road.enc p1.Mine.Roads, w2⟩), (q3, ⟨72, 4, Wa T_Fan.enc o5.2.2, g23⟩), (q4, ⟨99, 3, Wa T_Door.enc x35, wg260 + 1⟩)]), [⟨62, 2, [.agg [.nils, .nils]], 0⟩, ⟨62, 2, [.agg [.sl (n + 2) 0 0 (o28.2.Fans).length, .sl (n + 3) 0 0 (o28.2.Doors).length]], 0⟩, ⟨3, 1, Wa (Wb .i64) o28.2.Fans, 0⟩, ⟨3, 1, Wa (Wb .i64) x39, 0 + 1⟩, ⟨3, 1, [], 0 + 1⟩, ⟨99, 3, [.agg [.int .i64 x33.2.Road, .int .i64 x33.2.Other, .vs 1 (Wa (Wb .i64) x33.2.Rests)]], 0⟩]), ((setL low0 [(q0, ⟨88, 2, [.agg [.vs 1 (Wa (Wb .u8) x37.1.l), .int .i64 x37.1.at_]], w0⟩), (q1, ⟨31, 4, [.agg [.vs 2 (Wa T_Place.enc p1.Mine.Places), .sl q2 w2 0 m2, .sl q3 g23 0 (o5.2.2).length, .sl q4 (wg260 + 1) 0 (x35).length]], w1⟩), (q2, ⟨46, 10, Wa T_Road.enc p1.Mine.Roads, w2⟩), (q3, ⟨72, 4, Wa T_Fan.enc o5.2.2, g23⟩), (q4, ⟨99, 3, Wa T_Door.enc x35, wg260 + 1⟩)]), [⟨62, 2, [.agg [.nils, .nils]], 0⟩, ⟨62, 2, [.agg [.sl (n + 2) 0 0 (o28.2.Fans).length, .sl (n + 3) (0 + 1) 0 (x39).length]], 0⟩, ⟨3, 1, Wa (Wb .i64) o28.2.Fans, 0⟩, ⟨3, 1, Wa (Wb .i64) x39, 0 + 1⟩, ⟨3, 1, [], 0 + 1⟩, ⟨99, 3, [.agg [.int .i64 x33.2.Road, .int .i64 x33.2.Other, .vs 1 (Wa (Wb .i64) x33.2.Rests)]], 0⟩])] mixed (by kernel_rfl) rfl (lenAll (Vv Xp (Vv Xp (Vv Xp (Vv Xp Yw))))) rfl _ rfl rfl ?_
      refine Vx _ rfl rfl (Vv (VRd.ntl (Vb rfl tf_62_1 ts_32 (by decide))) (Vv (VRd.ntl (Vb rfl tf_62_1 ts_32 (by decide))) Yw)) ?_
      refine Vx _ rfl rfl (Vv (VRd.ntl (Vj rfl (Vg (Vl hn) rfl) rfl ta_32 rfl)) (Vv (VRd.ntl (Vj rfl (Vg (Vl hn) rfl) rfl ta_32 rfl)) Yw)) ?_
      refine Yd rfl rfl (Xg rfl) ?_
      refine Yd rfl rfl (Vb rfl tf_99_2 ts_32 (by decide)) ?_
      refine Yd rfl rfl (Vj rfl (Vg (Vl hn) rfl) rfl ta_32 rfl) ?_
      refine Yd rfl rfl (Xo (Yu rfl rfl te_32) (congrArg (fun n : Nat => Wb .i64 (n : Int)) (Wh _))) ?_
      refine Ya rfl rfl rfl (Vz (ps := [(q0, ⟨88, 2, [.agg [.vs 1 (Wa (Wb .u8) x37.1.l), .int .i64 x37.1.at_]], w0⟩)]) (r := .int .i64 x37.2) (os := []) (low1 := (setL low0 [(q0, ⟨88, 2, [.agg [.vs 1 (Wa (Wb .u8) x37.1.l), .int .i64 x37.1.at_]], w0⟩), (q1, ⟨31, 4, [.agg [.vs 2 (Wa T_Place.enc p1.Mine.Places), .sl q2 w2 0 m2, .sl q3 g23 0 (o5.2.2).length, .sl q4 (wg260 + 1) 0 (x35).length]], w1⟩), (q2, ⟨46, 10, Wa T_Road.enc p1.Mine.Roads, w2⟩), (q3, ⟨72, 4, Wa T_Fan.enc o5.2.2, g23⟩), (q4, ⟨99, 3, Wa T_Door.enc x35, wg260 + 1⟩)])) (loc1 := [⟨62, 2, [.agg [.nils, .nils]], 0⟩, ⟨62, 2, [.agg [.sl (n + 2) 0 0 (o28.2.Fans).length, .sl (n + 3) 0 0 (o28.2.Doors).length]], 0⟩, ⟨3, 1, Wa (Wb .i64) o28.2.Fans, 0⟩, ⟨3, 1, Wa (Wb .i64) o28.2.Doors, 0⟩, ⟨3, 1, [], 0 + 1⟩, ⟨99, 3, [.agg [.int .i64 x33.2.Road, .int .i64 x33.2.Other, .vs 1 (Wa (Wb .i64) x33.2.Rests)]], 0⟩]) (loc2 := [⟨62, 2, [.agg [.nils, .nils]], 0⟩, ⟨62, 2, [.agg [.sl (n + 2) 0 0 (o28.2.Fans).length, .sl (n + 3) 0 0 (o28.2.Doors).length]], 0⟩, ⟨3, 1, Wa (Wb .i64) o28.2.Fans, 0⟩, ⟨3, 1, Wa (Wb .i64) o28.2.Doors, 0⟩, ⟨3, 1, [], 0 + 1⟩, ⟨99, 3, [.agg [.int .i64 x33.2.Road, .int .i64 x33.2.Other, .vs 1 (Wa (Wb .i64) x33.2.Rests)]], 0⟩]) rfl Try.call27 (F_draw_Codes_Next_ok h38 (nd1 na0 nd0) (Zb hB rfl 0 rfl) (Xs (Vl hn) rfl)) (Yk (ps0' := [(q0, ⟨88, 2, [.agg [.vs 1 (Wa (Wb .u8) x37.1.l), .int .i64 x37.1.at_]], w0⟩), (q1, ⟨31, 4, [.agg [.vs 2 (Wa T_Place.enc p1.Mine.Places), .sl q2 w2 0 m2, .sl q3 g23 0 (o5.2.2).length, .sl q4 (wg260 + 1) 0 (x35).length]], w1⟩), (q2, ⟨46, 10, Wa T_Road.enc p1.Mine.Roads, w2⟩), (q3, ⟨72, 4, Wa T_Fan.enc o5.2.2, g23⟩), (q4, ⟨99, 3, Wa T_Door.enc x35, wg260 + 1⟩)]) hB rfl 0 rfl (Yo hn ⟨Vo ⟨.vs _ _, .int _ _, trivial⟩, trivial⟩) rfl Xf) rfl) ?_
      refine dn1 rfl rfl (nt_of (Yt (es := Wa (Wb .i64) [x37.2]) ⟨rfl, rfl, trivial⟩ rfl rfl (Zm rfl) te_32 ts_3 tz_3 rfl rfl (Wf _) (by decide) (Ym (fun _ => .int _ _)))) ?_
      refine Ya rfl rfl rfl (Zw (f := (Wb .i64)) (l := o28.2.Doors) (ys := [x37.2]) rfl rfl (Vg (Vl hn) rfl) rfl (src_vs rfl) te_32 ts_3 tb_3 (by decide) tz_3 rfl h40 (Xn (Vl hn) rfl)) ?_
      refine Yd rfl rfl (Vb rfl tf_62_1 ts_32 (by decide)) ?_
      refine Ya rfl rfl rfl (Vw (p := .sl (n + 3) (0 + 1) 0 (x39).length) (e' := .agg [.sl (n + 2) 0 0 (o28.2.Fans).length, .sl (n + 3) (0 + 1) 0 (x39).length]) rfl (Vg (Vl hn) rfl) rfl rfl ts_32 rfl (Yg rfl) rfl (We rfl) rfl (Xn (Vl hn) rfl)) ?_
      refine Yx ?_
      refine Vd ?_
      refine Va (Vk rfl) rfl ?_
      refine Va (Zp rfl rfl rfl) rfl ?_
      refine Va (Xv rfl) rfl ?_
      refine Ve ?_
      obtain rfl := Wd hF
      refine And.intro rfl (Exists.intro (wg260 + 1) ?_)
      exact Vm (Vl hn) [(0, 0), (1, 0), (2, 0), (3, 0 + 1)] (by decide) ⟨Vh rfl (.ptr _ _ _ _ hq0), Vh rfl (.ptr _ _ _ _ hq1), Vt 0 0 rfl rfl, Vt 1 1 rfl rfl, Vh rfl (.int _ _), Vh rfl (.int _ _), trivial⟩ ⟨⟨_, rfl, rfl, .same _ _ _ _ (Vn ⟨Vo ⟨.nils, .nils, trivial⟩, trivial⟩)⟩, ⟨_, rfl, rfl, .agg _ _ _ _ _ ⟨Yc 2 2 rfl rfl, Yc 3 3 rfl rfl, trivial⟩⟩, ⟨_, rfl, rfl, .same _ _ _ _ (Vq (fun _ => .int _ _))⟩, ⟨_, rfl, rfl, .same _ _ _ _ (Vq (fun _ => .int _ _))⟩, trivial⟩
     ·have hF := Yr c30 hF
      refine Zd ?_
      obtain rfl := Wd hF
      refine And.intro rfl (Exists.intro wg260 ?_)
      exact Vp ⟨rfl, rfl, trivial⟩
   ·rintro _ _ _ _ ⟨rfl, g41, hw⟩
    refine ⟨_, _, _, hw, ?_⟩
    refine Vf ?_
    refine Vd ?_
    refine Va (Xa (ds := [.sl (n + 2) 0 0 (o27.1.Fans).length, .sl (n + 3) 0 0 (o27.1.Doors).length]) rfl (Vg (Vl hn) rfl) rfl ta_62 ts_62 rfl rfl rfl) rfl ?_
    refine Vi (Vw (p := .agg [.sl (n + 2) 0 0 (o27.1.Fans).length, .sl (n + 3) 0 0 (o27.1.Doors).length]) (e' := .agg [.sl (n + 2) 0 0 (o27.1.Fans).length, .sl (n + 3) 0 0 (o27.1.Doors).length]) rfl (Vg (Vl hn) rfl) rfl rfl ts_62 rfl (Yg rfl) rfl (We rfl) rfl (Xn (Vl hn) rfl)) rfl ?_
    refine Ve ?_
    refine Yb ?_
    obtain rfl := Wd hF
    refine And.intro (.inr rfl) (Exists.intro g23 (Exists.intro g41 (And.intro hm2 ?_)))
    exact Vm (Vl hn) [(2, 0), (3, 0), (0, 0)] (by decide) ⟨Vt 2 0 rfl rfl, trivial⟩ ⟨⟨_, rfl, rfl, .same _ _ _ _ (Vq (fun _ => .int _ _))⟩, ⟨_, rfl, rfl, .same _ _ _ _ (Vq (fun _ => .int _ _))⟩, ⟨_, rfl, rfl, .agg _ _ _ _ _ ⟨Yc 0 2 rfl rfl, Yc 1 3 rfl rfl, trivial⟩⟩, trivial⟩
 ·rintro _ _ _ _ ⟨he, g0, g1, hl1, hw⟩
  refine ⟨_, _, _, hw, ?_⟩
  exact bodyQ_some (Vl hn) 2 rfl (We rfl) he [.agg [.sl (n + 0) 0 0 (r.2.2.Fans).length, .sl (n + 1) 0 0 (r.2.2.Doors).length]] ⟨Xa rfl (Vg (Vl hn) rfl) rfl ta_62 ts_62 rfl rfl rfl, trivial⟩ ((Vo ⟨.sl _ _ _ _ (lt_kk rfl), .sl _ _ _ _ (lt_kk rfl), trivial⟩)) ⟨Vq (fun _ => .int _ _), Vq (fun _ => .int _ _), trivial⟩ ⟨(g0, g1), rfl, rfl⟩

theorem F_draw_Codes_equipped_len {p0 : T_draw_Codes} {p1 : T_Air} {r : T_draw_Codes × T_Air × T_Setting} (hF : F_draw_Codes_equipped p0 p1 = some r) {m2 : Nat} (hm2 : m2 = (p1.Mine.Roads).length) {m3 : Nat} (hm3 : m3 = (p1.Fans).length) {m4 : Nat} (hm4 : m4 = (p1.Doors).length) : m2 = (r.2.1.Mine.Roads).length ∧ True := by
  have h : LP (F_draw_Codes_equipped p0 p1) (fun r => m2 = (r.2.1.Mine.Roads).length ∧ True) := by
    unfold F_draw_Codes_equipped
    exact (Yj fun x2 h3 => lp_bind (Q := fun o5 => True) (lp_loop (fun s4 => True) trivial (fun s4 _ => by unfold F_draw_Codes_equipped_L1; exact (lp_bind (Q := fun o6 => True) (lp_bif (fun c7 => Za trivial) (fun c7 => Za trivial)) (fun o6 _ => lp_bif (fun c8 => Yj fun x9 h10 => Yj fun x11 h12 => Yj fun x13 h14 => Yj fun x15 h16 => Yj fun x17 h18 => Yj fun x19 h20 => Yj fun x21 h22 => Za trivial) (fun c8 => Za trivial))))) (fun o5 _ => Yj fun x24 h25 => lp_bind (Q := fun o27 => True) (lp_loop (fun s26 => True) trivial (fun s26 _ => by unfold F_draw_Codes_equipped_L2; exact (lp_bind (Q := fun o28 => True) (lp_bif (fun c29 => Za trivial) (fun c29 => Za trivial)) (fun o28 _ => lp_bif (fun c30 => Yj fun x31 h32 => Yj fun x33 h34 => Yj fun x35 h36 => Yj fun x37 h38 => Yj fun x39 h40 => Za trivial) (fun c30 => Za trivial))))) (fun o27 _ => Za ⟨hm2, trivial⟩)))
  exact h r hF

theorem F_draw_Codes_equipped_ok {p0 : T_draw_Codes} {p1 : T_Air} {r : T_draw_Codes × T_Air × T_Setting} (hF : F_draw_Codes_equipped p0 p1 = some r) {low : List AObj} {q0 q1 q2 q3 q4 w0 w1 w2 w3 w4 : Nat} (hnd : [q0, q1, q2, q3, q4].Nodup) {m2 : Nat} (hm2 : m2 = (p1.Mine.Roads).length) {m3 : Nat} (hm3 : m3 = (p1.Fans).length) {m4 : Nat} (hm4 : m4 = (p1.Doors).length) (hq0 : low[q0]? = some ⟨88, 2, [.agg [.vs 1 (Wa (Wb .u8) p0.l), .int .i64 p0.at_]], w0⟩) (hq1 : low[q1]? = some ⟨31, 4, [.agg [.vs 2 (Wa T_Place.enc p1.Mine.Places), .sl q2 w2 0 m2, .sl q3 w3 0 m3, .sl q4 w4 0 m4]], w1⟩) (hq2 : low[q2]? = some ⟨46, 10, Wa T_Road.enc p1.Mine.Roads, w2⟩) (hq3 : low[q3]? = some ⟨72, 4, Wa T_Fan.enc p1.Fans, w3⟩) (hq4 : low[q4]? = some ⟨99, 3, Wa T_Door.enc p1.Doors, w4⟩) {n : Nat} (hn : low.length = n) :
    Zh Try.prog 38 [.ptr q0 w0 0 0, .ptr q1 w1 0 0] low fun x low' => x = .agg [.sl (n + 0) 0 0 (r.2.2.Fans).length, .sl (n + 1) 0 0 (r.2.2.Doors).length] ∧ low' = setL low [(q0, ⟨88, 2, [.agg [.vs 1 (Wa (Wb .u8) r.1.l), .int .i64 r.1.at_]], w0⟩), (q1, ⟨31, 4, [.agg [.vs 2 (Wa T_Place.enc r.2.1.Mine.Places), .sl q2 w2 0 m2, .sl q3 (w3 + 1) 0 (r.2.1.Fans).length, .sl q4 (w4 + 1) 0 (r.2.1.Doors).length]], w1⟩), (q2, ⟨46, 10, Wa T_Road.enc r.2.1.Mine.Roads, w2⟩), (q3, ⟨72, 4, Wa T_Fan.enc r.2.1.Fans, w3 + 1⟩), (q4, ⟨99, 3, Wa T_Door.enc r.2.1.Doors, w4 + 1⟩)] ++ [⟨3, 1, Wa (Wb .i64) r.2.2.Fans, 0⟩, ⟨3, 1, Wa (Wb .i64) r.2.2.Doors, 0⟩] := by
  obtain ⟨h1, h2⟩ := bor_start (ps := [(q0, ⟨88, 2, [.agg [.vs 1 (Wa (Wb .u8) p0.l), .int .i64 p0.at_]], w0⟩), (q1, ⟨31, 4, [.agg [.vs 2 (Wa T_Place.enc p1.Mine.Places), .sl q2 w2 0 m2, .sl q3 w3 0 m3, .sl q4 w4 0 m4]], w1⟩), (q2, ⟨46, 10, Wa T_Road.enc p1.Mine.Roads, w2⟩), (q3, ⟨72, 4, Wa T_Fan.enc p1.Fans, w3⟩), (q4, ⟨99, 3, Wa T_Door.enc p1.Doors, w4⟩)]) hnd (borC hq0 (borC hq1 (borC hq2 (borC hq3 (borC hq4 bor0)))))
  exact Zz h1 (F_draw_Codes_equipped_ok0 hF h2 hm2 hm3 hm4 hn)

theorem F_ref08_Rest_ok {p0 : T_Door} {p1 : Int} {r : T_Span} (hF : F_ref08_Rest p0 p1 = some r) (low : List AObj) :
    Zh Try.prog 45 [.agg [.int .i64 p0.Road, .int .i64 p0.Other, .vs 1 (Wa (Wb .i64) p0.Rests)], .int .i64 p1] low fun x low' => x = .agg [.int .i64 r.Low, .int .i64 r.High] ∧ low' = low := by
 refine Xr (nt := 71) (rs := [.cell 4 44]) Try.func45 rfl rfl (We rfl) rfl ?_
 refine Vs (Q' := FnE (fun E' lw lc => Xz E' lw lc [(4, .ptr (low.length + 0) 0 0 0)] low [⟨44, 2, [.agg [.int .i64 r.Low, .int .i64 r.High]], 0⟩])) ?_ ?_
 ·unfold F_ref08_Rest at hF
  refine Vf ?_
  refine Vd ?_
  refine Vi (Zx rfl rfl (v := .agg [.int .i64 p0.Road, .int .i64 p0.Other, .vs 1 (Wa (Wb .i64) p0.Rests)]) rfl rfl (Wf _) rfl rfl) rfl ?_
  refine Vi (Xm rfl rfl tz_44 rfl rfl (Wf _) rfl) rfl ?_
  refine Ve ?_
  refine Vf ?_
  refine Vf ?_
  obtain ⟨o1, ho1, hF⟩ := Yf hF
  refine Vs (Q' := (fun o1 => OnlyE .normal (fun E' lw lc => Xz E' lw lc [(1, .int .i64 p1), (2, .ptr (low.length + 0) 0 0 0), (4, .ptr (low.length + 1) 0 0 0), (21, .bool o1)] low [⟨99, 3, [.agg [.int .i64 p0.Road, .int .i64 p0.Other, .vs 1 (Wa (Wb .i64) p0.Rests)]], 0⟩, ⟨44, 2, [.agg [.int .i64 0, .int .i64 0]], 0⟩])) o1) ?_ ?_
  ·replace hF := ho1
   refine Vd ?_
   rcases Wg (decide (((p0.Rests).length : Int) = 0)) with c2 | c2
   ·have hF := Yq c2 hF
    refine Va (Vb rfl tf_99_2 ts_32 (by decide)) rfl ?_
    refine Va (Vj rfl (Vg rfl rfl) rfl ta_32 rfl) rfl ?_
    refine Va (Xo (Yu rfl rfl te_32) (congrArg (fun n : Nat => Wb .i64 (n : Int)) (Wh _))) rfl ?_
    refine Va (Zk rfl rfl) rfl ?_
    refine Va (Vr rfl) rfl ?_
    refine Vc rfl rfl (neT c2) rfl ?_
    refine Vc rfl rfl (neT c2) rfl ?_
    refine Va (Xc (congrArg Wc c2) rfl) rfl ?_
    refine Va (Vr rfl) rfl ?_
    refine Vc rfl rfl (by decide) rfl ?_
    refine Vc rfl rfl (by decide) rfl ?_
    refine Vc rfl rfl (by decide) rfl ?_
    refine Vc rfl rfl (by decide) rfl ?_
    refine Vc rfl rfl (by decide) rfl ?_
    refine Va (Xc rfl rfl) rfl ?_
    refine Ve ?_
    obtain rfl := Wd hF
    refine Xk ?_
    exact Vp ⟨rfl, rfl, rfl, rfl, trivial⟩
   ·have hF := Yr c2 hF
    rcases Wg (decide (p1 < (-1))) with c3 | c3
    ·have hF := Yq c3 hF
     refine Va (Vb rfl tf_99_2 ts_32 (by decide)) rfl ?_
     refine Va (Vj rfl (Vg rfl rfl) rfl ta_32 rfl) rfl ?_
     refine Va (Xo (Yu rfl rfl te_32) (congrArg (fun n : Nat => Wb .i64 (n : Int)) (Wh _))) rfl ?_
     refine Va (Zk rfl rfl) rfl ?_
     refine Va (Vr rfl) rfl ?_
     refine Xd rfl rfl c2 ?_
     refine Va (Vk rfl) rfl ?_
     refine Xd rfl rfl c2 ?_
     refine Va (Yz rfl rfl) rfl ?_
     refine Va (Vy (congrArg Wc c2) rfl) rfl ?_
     refine Va (Vr rfl) rfl ?_
     refine Vc rfl rfl (neT c3) rfl ?_
     refine Vc rfl rfl (neT c3) rfl ?_
     refine Vc rfl rfl (neT c3) rfl ?_
     refine Vc rfl rfl (neT c3) rfl ?_
     refine Vc rfl rfl (neT c3) rfl ?_
     refine Va (Xc (congrArg Wc c3) rfl) rfl ?_
     refine Ve ?_
     obtain rfl := Wd hF
     refine Xk ?_
     exact Vp ⟨rfl, rfl, rfl, rfl, trivial⟩
    ·have hF := Yr c3 hF
     refine Va (Vb rfl tf_99_2 ts_32 (by decide)) rfl ?_
     refine Va (Vj rfl (Vg rfl rfl) rfl ta_32 rfl) rfl ?_
     refine Va (Xo (Yu rfl rfl te_32) (congrArg (fun n : Nat => Wb .i64 (n : Int)) (Wh _))) rfl ?_
     refine Va (Zk rfl rfl) rfl ?_
     refine Va (Vr rfl) rfl ?_
     refine Xd rfl rfl c2 ?_
     refine Va (Vk rfl) rfl ?_
     refine Xd rfl rfl c2 ?_
     refine Va (Yz rfl rfl) rfl ?_
     refine Va (Vy (congrArg Wc c2) rfl) rfl ?_
     refine Va (Vr rfl) rfl ?_
     refine Xd rfl rfl c3 ?_
     refine Va (Vk rfl) rfl ?_
     refine Xd rfl rfl c3 ?_
     refine Va (Vb rfl tf_99_2 ts_32 (by decide)) rfl ?_
     refine Xd rfl rfl c3 ?_
     refine Va (Vj rfl (Vg rfl rfl) rfl ta_32 rfl) rfl ?_
     refine Xd rfl rfl c3 ?_
     refine Va (Xo (Yu rfl rfl te_32) (congrArg (fun n : Nat => Wb .i64 (n : Int)) (Wh _))) rfl ?_
     refine Xd rfl rfl c3 ?_
     refine Va (rd_geq rfl rfl) rfl ?_
     refine Va (Vy (congrArg Wc c3) rfl) rfl ?_
     refine Ve ?_
     obtain rfl := Wd hF
     refine Xk ?_
     exact Vp ⟨rfl, rfl, rfl, rfl, trivial⟩
  ·rintro _ _ _ _ ⟨rfl, hw⟩
   refine ⟨_, _, _, hw, ?_⟩
   refine Xi rfl (fun c4 => ?_) (fun c4 => ?_)
   ·have hF := Yq c4 hF
    refine Vf ?_
    refine Vd ?_
    refine Va (Ye (vs := []) (ds := [.int .i64 0, .int .i64 0]) tz_44 rfl rfl tp_44 trivial (Yh rfl) rfl) rfl ?_
    refine Vi (Vw (p := .agg [.int .i64 0, .int .i64 0]) (e' := .agg [.int .i64 0, .int .i64 0]) rfl (Vg rfl rfl) rfl rfl ts_44 rfl (Yg rfl) rfl (We rfl) rfl (Xn rfl rfl)) rfl ?_
    refine Ve ?_
    refine Yb ?_
    obtain rfl := Wd hF
    refine fnR ?_
    exact Vm rfl [(1, 0)] (by decide) ⟨Vt 0 1 rfl rfl, trivial⟩ ⟨⟨_, rfl, rfl, .same _ _ _ _ (Vn ⟨Vo ⟨.int _ _, .int _ _, trivial⟩, trivial⟩)⟩, trivial⟩
   ·have hF := Yr c4 hF
    refine Xj ?_
    refine Vf ?_
    refine Vf ?_
    refine Vd ?_
    refine Va (Vk rfl) rfl ?_
    refine Va (rd_geq rfl rfl) rfl ?_
    refine Ve ?_
    refine Xi rfl (fun c5 => ?_) (fun c5 => ?_)
    ·have hF := Yq c5 hF
     refine Vf ?_
     obtain ⟨x6, h7, hF⟩ := Yf hF
     obtain ⟨x8, h9, hF⟩ := Yf hF
     refine Zn [[], [0], [], [0, 1, 2], [0, 1, 2, 3], [], [5], [], [5, 6, 7], [5, 6, 7, 8], [0, 1, 2, 3, 4, 5, 6, 7, 8, 9], [0, 1, 2, 3, 4, 5, 6, 7, 8, 9, 10]] [false, false, false, false, false, false, false, false, false, false, false, true] [(low, [⟨99, 3, [.agg [.int .i64 p0.Road, .int .i64 p0.Other, .vs 1 (Wa (Wb .i64) p0.Rests)]], 0⟩, ⟨44, 2, [.agg [.int .i64 0, .int .i64 0]], 0⟩]), (low, [⟨99, 3, [.agg [.int .i64 p0.Road, .int .i64 p0.Other, .vs 1 (Wa (Wb .i64) p0.Rests)]], 0⟩, ⟨44, 2, [.agg [.int .i64 x6, .int .i64 x8]], 0⟩])] mixed (by kernel_rfl) rfl (lenAll (Vv rfl (Vv rfl Yw))) rfl _ rfl rfl ?_
     refine Yd rfl rfl (Vb rfl tf_99_2 ts_32 (by decide)) ?_
     refine Yd rfl rfl (Vj rfl (Vg rfl rfl) rfl ta_32 rfl) ?_
     refine Yd rfl rfl (Vk rfl) ?_
     refine Yd rfl rfl (Xo (Xu rfl rfl h7 te_32 ts_3) (v' := .vptr [.int .i64 x6] 0) rfl) ?_
     refine Yd rfl rfl (Xe rfl ta_3 rfl) ?_
     refine Yd rfl rfl (Vb rfl tf_99_2 ts_32 (by decide)) ?_
     refine Yd rfl rfl (Vj rfl (Vg rfl rfl) rfl ta_32 rfl) ?_
     refine Yd rfl rfl (Vk rfl) ?_
     refine Yd rfl rfl (Xo (Xu rfl rfl h9 te_32 ts_3) (v' := .vptr [.int .i64 x8] 0) rfl) ?_
     refine Yd rfl rfl (Xe rfl ta_3 rfl) ?_
     refine Yd rfl rfl (Ye (vs := [(0, .int .i64 x6), (1, .int .i64 x8)]) (ds := [.int .i64 x6, .int .i64 x8]) tz_44 rfl rfl tp_44 ⟨rfl, rfl, rfl, rfl, trivial⟩ (Yh rfl) rfl) ?_
     refine Ya rfl rfl rfl (Vw (p := .agg [.int .i64 x6, .int .i64 x8]) (e' := .agg [.int .i64 x6, .int .i64 x8]) rfl (Vg rfl rfl) rfl rfl ts_44 rfl (Yg rfl) rfl (We rfl) rfl (Xn rfl rfl)) ?_
     refine Yx ?_
     refine Yb ?_
     obtain rfl := Wd hF
     refine fnR ?_
     exact Vm rfl [(1, 0)] (by decide) ⟨Vt 0 1 rfl rfl, trivial⟩ ⟨⟨_, rfl, rfl, .same _ _ _ _ (Vn ⟨Vo ⟨.int _ _, .int _ _, trivial⟩, trivial⟩)⟩, trivial⟩
    ·have hF := Yr c5 hF
     refine Xj ?_
     refine Vf ?_
     obtain ⟨x10, h11, hF⟩ := Yf hF
     obtain ⟨x12, h13, hF⟩ := Yf hF
     refine Zn [[], [0], [0, 1], [0, 1, 2], [], [4], [4, 5], [4, 5, 6], [0, 1, 2, 3, 4, 5, 6, 7], [], [0, 1, 2, 3, 4, 5, 6, 7, 8, 9]] [false, false, false, false, false, false, false, false, false, true, true] [(low, [⟨99, 3, [.agg [.int .i64 p0.Road, .int .i64 p0.Other, .vs 1 (Wa (Wb .i64) p0.Rests)]], 0⟩, ⟨44, 2, [.agg [.int .i64 0, .int .i64 0]], 0⟩]), (low, [⟨99, 3, [.agg [.int .i64 p0.Road, .int .i64 p0.Other, .vs 1 (Wa (Wb .i64) p0.Rests)]], 0⟩, ⟨44, 2, [.agg [.int .i64 0, .int .i64 0]], 0⟩, ⟨44, 2, [.agg [.int .i64 0, .int .i64 0]], 0⟩]), (low, [⟨99, 3, [.agg [.int .i64 p0.Road, .int .i64 p0.Other, .vs 1 (Wa (Wb .i64) p0.Rests)]], 0⟩, ⟨44, 2, [.agg [.int .i64 0, .int .i64 0]], 0⟩, ⟨44, 2, [.agg [.int .i64 x10, .int .i64 x12]], 0⟩])] mixed (by kernel_rfl) rfl (lenAll (Vv rfl (Vv rfl (Vv rfl Yw)))) rfl _ rfl rfl ?_
     refine Vx _ rfl rfl (Vv (VRd.ntl (Vb rfl tf_99_2 ts_32 (by decide))) (Vv (VRd.ntl (Vb rfl tf_99_2 ts_32 (by decide))) Yw)) ?_
     refine Vx _ rfl rfl (Vv (VRd.ntl (Vj rfl (Vg rfl rfl) rfl ta_32 rfl)) (Vv (VRd.ntl (Vj rfl (Vg rfl rfl) rfl ta_32 rfl)) Yw)) ?_
     refine Vx _ rfl rfl (Vv (VRd.ntl (Xo (Xu rfl rfl h11 te_32 ts_3) (v' := .vptr [.int .i64 x10] 0) rfl)) (Vv (VRd.ntl (Xo (Xu rfl rfl h11 te_32 ts_3) (v' := .vptr [.int .i64 x10] 0) rfl)) Yw)) ?_
     refine Vx _ rfl rfl (Vv (VRd.ntl (Xe rfl ta_3 rfl)) (Vv (VRd.ntl (Xe rfl ta_3 rfl)) Yw)) ?_
     refine Vx _ rfl rfl (Vv (VRd.ntl (Vb rfl tf_99_2 ts_32 (by decide))) (Vv (VRd.ntl (Vb rfl tf_99_2 ts_32 (by decide))) Yw)) ?_
     refine Vx _ rfl rfl (Vv (VRd.ntl (Vj rfl (Vg rfl rfl) rfl ta_32 rfl)) (Vv (VRd.ntl (Vj rfl (Vg rfl rfl) rfl ta_32 rfl)) Yw)) ?_
     refine Vx _ rfl rfl (Vv (VRd.ntl (Xo (Xu rfl rfl h13 te_32 ts_3) (v' := .vptr [.int .i64 x12] 0) rfl)) (Vv (VRd.ntl (Xo (Xu rfl rfl h13 te_32 ts_3) (v' := .vptr [.int .i64 x12] 0) rfl)) Yw)) ?_
     refine Vx _ rfl rfl (Vv (VRd.ntl (Xe rfl ta_3 rfl)) (Vv (VRd.ntl (Xe rfl ta_3 rfl)) Yw)) ?_
     refine Vx _ rfl rfl (Vv (VRd.ntl (Ye (vs := [(0, .int .i64 x10), (1, .int .i64 x12)]) (ds := [.int .i64 x10, .int .i64 x12]) tz_44 rfl rfl tp_44 ⟨rfl, rfl, rfl, rfl, trivial⟩ (Yh rfl) rfl)) (Vv (VRd.ntl (Ye (vs := [(0, .int .i64 x10), (1, .int .i64 x12)]) (ds := [.int .i64 x10, .int .i64 x12]) tz_44 rfl rfl tp_44 ⟨rfl, rfl, rfl, rfl, trivial⟩ (Yh rfl) rfl)) Yw)) ?_
     refine Ya rfl rfl rfl (Xm rfl rfl tz_44 rfl rfl (Wf _) rfl) ?_
     refine Ya rfl rfl rfl (Vw (p := .agg [.int .i64 x10, .int .i64 x12]) (e' := .agg [.int .i64 x10, .int .i64 x12]) rfl (Vg rfl rfl) rfl rfl ts_44 rfl (Yg rfl) rfl (We rfl) rfl (Xn rfl rfl)) ?_
     refine Yx ?_
     refine Vf ?_
     refine Vf ?_
     refine Vd ?_
     refine Va (Xv rfl) rfl ?_
     refine Ve ?_
     refine Xh ?_
     obtain ⟨o15, ho15, hF⟩ := Yf hF
     refine Vs (Yy (F_ref08_Rest_L1 p0) (fun s14 E' lw lc => Xz E' lw lc [(2, .ptr (low.length + 0) 0 0 0), (4, .ptr (low.length + 1) 0 0 0), (5, .ptr (low.length + 2) 0 0 0), (6, .int .i64 s14.1)] low [⟨99, 3, [.agg [.int .i64 p0.Road, .int .i64 p0.Other, .vs 1 (Wa (Wb .i64) p0.Rests)]], 0⟩, ⟨44, 2, [.agg [.int .i64 0, .int .i64 0]], 0⟩, ⟨44, 2, [.agg [.int .i64 s14.2.Low, .int .i64 s14.2.High]], 0⟩]) (fun o15 => OnlyE (.exit 0) (fun E' lw lc => Xz E' lw lc [(4, .ptr (low.length + 0) 0 0 0), (5, .ptr (low.length + 1) 0 0 0)] low [⟨44, 2, [.agg [.int .i64 0, .int .i64 0]], 0⟩, ⟨44, 2, [.agg [.int .i64 o15.Low, .int .i64 o15.High]], 0⟩])) ho15 ?_ (by rintro _ _ _ _ ⟨h, _⟩ <;> cases h) ?_) ?_
     ·exact Vp ⟨rfl, rfl, rfl, rfl, trivial⟩
     ·rintro s14 os14 _ _ _ hF hw
      unfold F_ref08_Rest_L1 at hF
      refine Yl hw ?_
      refine Vf ?_
      refine Vf ?_
      refine Vd ?_
      refine Va (Vk rfl) rfl ?_
      refine Va (Vb rfl tf_99_2 ts_32 (by decide)) rfl ?_
      refine Va (Vj rfl (Vg rfl rfl) rfl ta_32 rfl) rfl ?_
      refine Va (Xo (Yu rfl rfl te_32) (congrArg (fun n : Nat => Wb .i64 (n : Int)) (Wh _))) rfl ?_
      refine Va (Yz rfl rfl) rfl ?_
      refine Ve ?_
      refine Xi rfl (fun c16 => ?_) (fun c16 => ?_)
      ·have hF := Yq c16 hF
       refine Xj ?_
       refine Vf ?_
       refine Xh ?_
       obtain ⟨x17, h18, hF⟩ := Yf hF
       obtain ⟨x19, h20, hF⟩ := Yf hF
       refine Zn [[], [0], [], [2], [], [2, 3, 4], [2, 3, 4, 5], [0, 1, 2, 3, 4, 5, 6], [], [8], [], [10], [], [10, 11, 12], [10, 11, 12, 13], [8, 9, 10, 11, 12, 13, 14], [0, 1, 2, 3, 4, 5, 6, 7, 8, 9], [0, 1, 2, 3, 4, 5, 6, 7, 8, 9, 16], [0, 1, 2, 3, 4, 5, 6, 7, 8, 9, 10, 11, 12, 13, 14, 15, 16, 17], [0, 1, 2, 3, 4, 5, 6, 7, 8, 9, 10, 11, 12, 13, 14, 15, 16, 17, 18]] [false, false, false, false, false, false, false, false, false, false, false, false, false, false, false, false, false, true, false, true] [(low, [⟨99, 3, [.agg [.int .i64 p0.Road, .int .i64 p0.Other, .vs 1 (Wa (Wb .i64) p0.Rests)]], 0⟩, ⟨44, 2, [.agg [.int .i64 0, .int .i64 0]], 0⟩, ⟨44, 2, [.agg [.int .i64 s14.2.Low, .int .i64 s14.2.High]], 0⟩]), (low, [⟨99, 3, [.agg [.int .i64 p0.Road, .int .i64 p0.Other, .vs 1 (Wa (Wb .i64) p0.Rests)]], 0⟩, ⟨44, 2, [.agg [.int .i64 0, .int .i64 0]], 0⟩, ⟨44, 2, [.agg [.int .i64 (min s14.2.Low x17), .int .i64 s14.2.High]], 0⟩]), (low, [⟨99, 3, [.agg [.int .i64 p0.Road, .int .i64 p0.Other, .vs 1 (Wa (Wb .i64) p0.Rests)]], 0⟩, ⟨44, 2, [.agg [.int .i64 0, .int .i64 0]], 0⟩, ⟨44, 2, [.agg [.int .i64 (min s14.2.Low x17), .int .i64 (max s14.2.High x19)]], 0⟩])] mixed (by kernel_rfl) rfl (lenAll (Vv rfl (Vv rfl (Vv rfl Yw)))) rfl _ rfl rfl ?_
       refine Yd rfl rfl (Vb rfl tf_44_0 ts_3 (by decide)) ?_
       refine Yd rfl rfl (Vj rfl (Vg rfl rfl) rfl ta_3 rfl) ?_
       refine Yd rfl rfl (Vb rfl tf_99_2 ts_32 (by decide)) ?_
       refine Yd rfl rfl (Vj rfl (Vg rfl rfl) rfl ta_32 rfl) ?_
       refine Yd rfl rfl (Vk rfl) ?_
       refine Yd rfl rfl (Xo (Xu rfl rfl h18 te_32 ts_3) (v' := .vptr [.int .i64 x17] 0) rfl) ?_
       refine Yd rfl rfl (Xe rfl ta_3 rfl) ?_
       refine Yd rfl rfl (rd_min rfl rfl) ?_
       refine Yd rfl rfl (Vb rfl tf_44_1 ts_3 (by decide)) ?_
       refine Yd rfl rfl (Vj rfl (Vg rfl rfl) rfl ta_3 rfl) ?_
       refine Vx _ rfl rfl (Vv (VRd.ntl (Vb rfl tf_99_2 ts_32 (by decide))) (Vv (VRd.ntl (Vb rfl tf_99_2 ts_32 (by decide))) Yw)) ?_
       refine Vx _ rfl rfl (Vv (VRd.ntl (Vj rfl (Vg rfl rfl) rfl ta_32 rfl)) (Vv (VRd.ntl (Vj rfl (Vg rfl rfl) rfl ta_32 rfl)) Yw)) ?_
       refine Vx _ rfl rfl (Vv (VRd.ntl (Vk rfl)) (Vv (VRd.ntl (Vk rfl)) Yw)) ?_
       refine Vx _ rfl rfl (Vv (VRd.ntl (Xo (Xu rfl rfl h20 te_32 ts_3) (v' := .vptr [.int .i64 x19] 0) rfl)) (Vv (VRd.ntl (Xo (Xu rfl rfl h20 te_32 ts_3) (v' := .vptr [.int .i64 x19] 0) rfl)) Yw)) ?_
       refine Vx _ rfl rfl (Vv (VRd.ntl (Xe rfl ta_3 rfl)) (Vv (VRd.ntl (Xe rfl ta_3 rfl)) Yw)) ?_
       refine Vx _ rfl rfl (Vv (VRd.ntl (rd_max rfl rfl)) (Vv (VRd.ntl (rd_max rfl rfl)) Yw)) ?_
       refine Yd rfl rfl (Vb rfl tf_44_0 ts_3 (by decide)) ?_
       refine Ya rfl rfl rfl (Vw (p := .int .i64 (min s14.2.Low x17)) (e' := .agg [.int .i64 (min s14.2.Low x17), .int .i64 s14.2.High]) rfl (Vg rfl rfl) rfl rfl ts_3 rfl (Yg rfl) rfl (We rfl) rfl (Xn rfl rfl)) ?_
       refine Yd rfl rfl (Vb rfl tf_44_1 ts_3 (by decide)) ?_
       refine Ya rfl rfl rfl (Vw (p := .int .i64 (max s14.2.High x19)) (e' := .agg [.int .i64 (min s14.2.Low x17), .int .i64 (max s14.2.High x19)]) rfl (Vg rfl rfl) rfl rfl ts_3 rfl (Yg rfl) rfl (We rfl) rfl (Xn rfl rfl)) ?_
       refine Yx ?_
       refine Vd ?_
       refine Va (Vk rfl) rfl ?_
       refine Va (Zf rfl rfl rfl) rfl ?_
       refine Va (Xv rfl) rfl ?_
       refine Ve ?_
       obtain rfl := Wd hF
       refine Xk ?_
       exact Vp ⟨rfl, rfl, rfl, rfl, trivial⟩
      ·have hF := Yr c16 hF
       refine Zd ?_
       obtain rfl := Wd hF
       refine Xk ?_
       exact Vm rfl [(1, 0), (2, 0)] (by decide) ⟨Vt 0 1 rfl rfl, Vt 1 2 rfl rfl, trivial⟩ ⟨⟨_, rfl, rfl, .same _ _ _ _ (Vn ⟨Vo ⟨.int _ _, .int _ _, trivial⟩, trivial⟩)⟩, ⟨_, rfl, rfl, .same _ _ _ _ (Vn ⟨Vo ⟨.int _ _, .int _ _, trivial⟩, trivial⟩)⟩, trivial⟩
     ·rintro _ _ _ _ ⟨rfl, hw⟩
      refine ⟨_, _, _, hw, ?_⟩
      refine Vf ?_
      refine Vd ?_
      refine Va (Xa (ds := [.int .i64 o15.Low, .int .i64 o15.High]) rfl (Vg rfl rfl) rfl ta_44 ts_44 rfl rfl rfl) rfl ?_
      refine Vi (Vw (p := .agg [.int .i64 o15.Low, .int .i64 o15.High]) (e' := .agg [.int .i64 o15.Low, .int .i64 o15.High]) rfl (Vg rfl rfl) rfl rfl ts_44 rfl (Yg rfl) rfl (We rfl) rfl (Xn rfl rfl)) rfl ?_
      refine Ve ?_
      refine Yb ?_
      obtain rfl := Wd hF
      refine fnR ?_
      exact Vm rfl [(0, 0)] (by decide) ⟨Vt 0 0 rfl rfl, trivial⟩ ⟨⟨_, rfl, rfl, .same _ _ _ _ (Vn ⟨Vo ⟨.int _ _, .int _ _, trivial⟩, trivial⟩)⟩, trivial⟩
 ·rintro _ _ _ _ ⟨he, hw⟩
  refine ⟨_, _, _, hw, ?_⟩
  exact Zc he [.agg [.int .i64 r.Low, .int .i64 r.High]] ⟨Xa rfl (Vg rfl rfl) rfl ta_44 ts_44 rfl rfl rfl, trivial⟩ ((Vo ⟨.int _ _, .int _ _, trivial⟩)) ⟨rfl, rfl⟩

theorem F_ref05_Floor_ok {p0 : Int} {p1 : Int} {r : Int} (hF : F_ref05_Floor p0 p1 = some r) (low : List AObj) :
    Zh Try.prog 52 [.int .i64 p0, .int .i64 p1] low fun x low' => x = .int .i64 r ∧ low' = low := by
 refine Xr (nt := 16) (rs := [.tmp 4]) Try.func52 rfl rfl (We rfl) rfl ?_
 refine Vs (Q' := FnE (fun E' lw lc => Xz E' lw lc [(4, .int .i64 r)] low [])) ?_ ?_
 ·unfold F_ref05_Floor at hF
  refine Vf ?_
  refine Vd ?_
  refine Va (Xv rfl) rfl ?_
  refine Ve ?_
  refine Vf ?_
  refine Vd ?_
  obtain ⟨x1, h2, hF⟩ := Yf hF
  refine Va (Vk rfl) rfl ?_
  refine Va (Vk rfl) rfl ?_
  refine Va (rd_quo rfl rfl (quoI_some h2).1 (quoI_some h2).2) rfl ?_
  refine Va (Xv rfl) rfl ?_
  refine Ve ?_
  refine Vf ?_
  refine Vf ?_
  refine Vd ?_
  obtain ⟨x3, h4, hF⟩ := Yf hF
  refine Va (Vk rfl) rfl ?_
  refine Va (Vk rfl) rfl ?_
  refine Va (rd_rem rfl rfl (remI_some h4).1 (remI_some h4).2) rfl ?_
  refine Va (Yz rfl rfl) rfl ?_
  refine Ve ?_
  obtain ⟨o5, ho5, hF⟩ := Yf hF
  refine Vs (Q' := (fun o5 => OnlyE .normal (fun E' lw lc => Xz E' lw lc [(5, .int .i64 o5)] low [])) o5) ?_ ?_
  ·replace hF := ho5
   refine Xi rfl (fun c6 => ?_) (fun c6 => ?_)
   ·have hF := Yq c6 hF
    refine Vd ?_
    refine Va (Vk rfl) rfl ?_
    refine Va (Zp rfl rfl rfl) rfl ?_
    refine Va (Xv rfl) rfl ?_
    refine Ve ?_
    obtain rfl := Wd hF
    refine Xk ?_
    exact Vp ⟨rfl, trivial⟩
   ·have hF := Yr c6 hF
    refine Xj ?_
    obtain rfl := Wd hF
    refine Xk ?_
    exact Vp ⟨rfl, trivial⟩
  ·rintro _ _ _ _ ⟨rfl, hw⟩
   refine ⟨_, _, _, hw, ?_⟩
   refine Vf ?_
   refine Vd ?_
   refine Va (Vk rfl) rfl ?_
   refine Va (Xv rfl) rfl ?_
   refine Ve ?_
   refine Yb ?_
   obtain rfl := Wd hF
   refine fnR ?_
   exact Vp ⟨rfl, trivial⟩
 ·rintro _ _ _ _ ⟨he, hw⟩
  refine ⟨_, _, _, hw, ?_⟩
  exact Zc he [.int .i64 r] ⟨rfl, trivial⟩ (.int _ _) ⟨rfl, rfl⟩

theorem F_ref05_Ceil_ok {p0 : Int} {p1 : Int} {r : Int} (hF : F_ref05_Ceil p0 p1 = some r) (low : List AObj) :
    Zh Try.prog 53 [.int .i64 p0, .int .i64 p1] low fun x low' => x = .int .i64 r ∧ low' = low := by
 refine Xr (nt := 10) (rs := [.tmp 4]) Try.func53 rfl rfl (We rfl) rfl ?_
 refine Vs (Q' := FnE (fun E' lw lc => Xz E' lw lc [(4, .int .i64 r)] low [])) ?_ ?_
 ·unfold F_ref05_Ceil at hF
  refine Vf ?_
  refine Vd ?_
  refine Va (Xv rfl) rfl ?_
  refine Ve ?_
  refine Vf ?_
  refine Vd ?_
  obtain ⟨x1, h2, hF⟩ := Yf hF
  refine Va (Vk rfl) rfl ?_
  refine Va (rd_neg rfl rfl) rfl ?_
  refine Va (Vk rfl) rfl ?_
  refine Vi (Xx rfl Try.call52 (F_ref05_Floor_ok h2 _)) rfl ?_
  refine Va (rd_neg rfl rfl) rfl ?_
  refine Va (Xv rfl) rfl ?_
  refine Ve ?_
  refine Yb ?_
  obtain rfl := Wd hF
  refine fnR ?_
  exact Vp ⟨rfl, trivial⟩
 ·rintro _ _ _ _ ⟨he, hw⟩
  refine ⟨_, _, _, hw, ?_⟩
  exact Zc he [.int .i64 r] ⟨rfl, trivial⟩ (.int _ _) ⟨rfl, rfl⟩

theorem F_ref07_Inner_ok {p0 : T_Fan} {p1 : Int} {r : T_Span} (hF : F_ref07_Inner p0 p1 = some r) (low : List AObj) :
    Zh Try.prog 51 [.agg [.int .i64 p0.Road, .bool p0.Back, .bool p0.Auxiliary, .vs 2 (Wa T_Point.enc p0.Curve)], .int .i64 p1] low fun x low' => x = .agg [.int .i64 r.Low, .int .i64 r.High] ∧ low' = low := by
 refine Xr (nt := 106) (rs := [.cell 4 44]) Try.func51 rfl rfl (We rfl) rfl ?_
 refine Vs (Q' := FnE (fun E' lw lc => Xz E' lw lc [(4, .ptr (low.length + 0) 0 0 0)] low [⟨44, 2, [.agg [.int .i64 r.Low, .int .i64 r.High]], 0⟩])) ?_ ?_
 ·unfold F_ref07_Inner at hF
  refine Vf ?_
  refine Vd ?_
  refine Vi (Zx rfl rfl (v := .agg [.int .i64 p0.Road, .bool p0.Back, .bool p0.Auxiliary, .vs 2 (Wa T_Point.enc p0.Curve)]) rfl rfl (Wf _) rfl rfl) rfl ?_
  refine Vi (Xm rfl rfl tz_44 rfl rfl (Wf _) rfl) rfl ?_
  refine Ve ?_
  refine Vf ?_
  refine Vd ?_
  refine Va (Vb rfl tf_72_3 ts_70 (by decide)) rfl ?_
  refine Va (Vj rfl (Vg rfl rfl) rfl ta_70 rfl) rfl ?_
  refine Va (Xo (Yu rfl rfl te_70) (congrArg (fun n : Nat => Wb .i64 (n : Int)) (Wh _))) rfl ?_
  refine Va (Xv rfl) rfl ?_
  refine Ve ?_
  refine Vf ?_
  refine Vf ?_
  refine Vd ?_
  obtain ⟨x1, h2, hF⟩ := Yf hF
  refine Va (Vk rfl) rfl ?_
  refine Va (Vb rfl tf_72_3 ts_70 (by decide)) rfl ?_
  refine Va (Vj rfl (Vg rfl rfl) rfl ta_70 rfl) rfl ?_
  refine Va (Xo (Xu rfl rfl h2 te_70 ts_106) (v' := .vptr [.int .i64 x1.Flow, .int .i64 x1.Pressure] 0) rfl) rfl ?_
  refine Va (Xq rfl tf_106_0 ts_3 (by decide)) rfl ?_
  refine Va (Xe rfl ta_3 rfl) rfl ?_
  refine Va (rd_leq rfl rfl) rfl ?_
  refine Ve ?_
  refine Xi rfl (fun c3 => ?_) (fun c3 => ?_)
  ·have hF := Yq c3 hF
   refine Vf ?_
   obtain ⟨x4, h5, hF⟩ := Yf hF
   obtain ⟨x6, h7, hF⟩ := Yf hF
   refine Zn [[], [0], [0, 1], [0, 1, 2], [0, 1, 2, 3], [], [5], [5, 6], [5, 6, 7], [5, 6, 7, 8], [0, 1, 2, 3, 4, 5, 6, 7, 8, 9], [0, 1, 2, 3, 4, 5, 6, 7, 8, 9, 10]] [false, false, false, false, false, false, false, false, false, false, false, true] [(low, [⟨72, 4, [.agg [.int .i64 p0.Road, .bool p0.Back, .bool p0.Auxiliary, .vs 2 (Wa T_Point.enc p0.Curve)]], 0⟩, ⟨44, 2, [.agg [.int .i64 0, .int .i64 0]], 0⟩]), (low, [⟨72, 4, [.agg [.int .i64 p0.Road, .bool p0.Back, .bool p0.Auxiliary, .vs 2 (Wa T_Point.enc p0.Curve)]], 0⟩, ⟨44, 2, [.agg [.int .i64 x4.Pressure, .int .i64 x6.Pressure]], 0⟩])] mixed (by kernel_rfl) rfl (lenAll (Vv rfl (Vv rfl Yw))) rfl _ rfl rfl ?_
   refine Yd rfl rfl (Vb rfl tf_72_3 ts_70 (by decide)) ?_
   refine Yd rfl rfl (Vj rfl (Vg rfl rfl) rfl ta_70 rfl) ?_
   refine Yd rfl rfl (Xo (Xu rfl rfl h5 te_70 ts_106) (v' := .vptr [.int .i64 x4.Flow, .int .i64 x4.Pressure] 0) rfl) ?_
   refine Yd rfl rfl (Xq rfl tf_106_1 ts_3 (by decide)) ?_
   refine Yd rfl rfl (Xe rfl ta_3 rfl) ?_
   refine Yd rfl rfl (Vb rfl tf_72_3 ts_70 (by decide)) ?_
   refine Yd rfl rfl (Vj rfl (Vg rfl rfl) rfl ta_70 rfl) ?_
   refine Yd rfl rfl (Xo (Xu rfl rfl h7 te_70 ts_106) (v' := .vptr [.int .i64 x6.Flow, .int .i64 x6.Pressure] 0) rfl) ?_
   refine Yd rfl rfl (Xq rfl tf_106_1 ts_3 (by decide)) ?_
   refine Yd rfl rfl (Xe rfl ta_3 rfl) ?_
   refine Yd rfl rfl (Ye (vs := [(0, .int .i64 x4.Pressure), (1, .int .i64 x6.Pressure)]) (ds := [.int .i64 x4.Pressure, .int .i64 x6.Pressure]) tz_44 rfl rfl tp_44 ⟨rfl, rfl, rfl, rfl, trivial⟩ (Yh rfl) rfl) ?_
   refine Ya rfl rfl rfl (Vw (p := .agg [.int .i64 x4.Pressure, .int .i64 x6.Pressure]) (e' := .agg [.int .i64 x4.Pressure, .int .i64 x6.Pressure]) rfl (Vg rfl rfl) rfl rfl ts_44 rfl (Yg rfl) rfl (We rfl) rfl (Xn rfl rfl)) ?_
   refine Yx ?_
   refine Yb ?_
   obtain rfl := Wd hF
   refine fnR ?_
   exact Vm rfl [(1, 0)] (by decide) ⟨Vt 0 1 rfl rfl, trivial⟩ ⟨⟨_, rfl, rfl, .same _ _ _ _ (Vn ⟨Vo ⟨.int _ _, .int _ _, trivial⟩, trivial⟩)⟩, trivial⟩
  ·have hF := Yr c3 hF
   refine Xj ?_
   refine Vf ?_
   refine Vf ?_
   refine Vd ?_
   obtain ⟨x8, h9, hF⟩ := Yf hF
   refine Va (Vk rfl) rfl ?_
   refine Va (Vb rfl tf_72_3 ts_70 (by decide)) rfl ?_
   refine Va (Vj rfl (Vg rfl rfl) rfl ta_70 rfl) rfl ?_
   refine Va (Vk rfl) rfl ?_
   refine Va (Zp rfl rfl rfl) rfl ?_
   refine Va (Xo (Xu rfl rfl h9 te_70 ts_106) (v' := .vptr [.int .i64 x8.Flow, .int .i64 x8.Pressure] 0) rfl) rfl ?_
   refine Va (Xq rfl tf_106_0 ts_3 (by decide)) rfl ?_
   refine Va (Xe rfl ta_3 rfl) rfl ?_
   refine Va (rd_geq rfl rfl) rfl ?_
   refine Ve ?_
   refine Xi rfl (fun c10 => ?_) (fun c10 => ?_)
   ·have hF := Yq c10 hF
    refine Vf ?_
    obtain ⟨x11, h12, hF⟩ := Yf hF
    obtain ⟨x13, h14, hF⟩ := Yf hF
    refine Zn [[], [0], [], [2], [0, 1, 2, 3], [0, 1, 2, 3, 4], [0, 1, 2, 3, 4, 5], [], [7], [], [9], [7, 8, 9, 10], [7, 8, 9, 10, 11], [7, 8, 9, 10, 11, 12], [0, 1, 2, 3, 4, 5, 6, 7, 8, 9, 10, 11, 12, 13], [0, 1, 2, 3, 4, 5, 6, 7, 8, 9, 10, 11, 12, 13, 14]] [false, false, false, false, false, false, false, false, false, false, false, false, false, false, false, true] [(low, [⟨72, 4, [.agg [.int .i64 p0.Road, .bool p0.Back, .bool p0.Auxiliary, .vs 2 (Wa T_Point.enc p0.Curve)]], 0⟩, ⟨44, 2, [.agg [.int .i64 0, .int .i64 0]], 0⟩]), (low, [⟨72, 4, [.agg [.int .i64 p0.Road, .bool p0.Back, .bool p0.Auxiliary, .vs 2 (Wa T_Point.enc p0.Curve)]], 0⟩, ⟨44, 2, [.agg [.int .i64 x11.Pressure, .int .i64 x13.Pressure]], 0⟩])] mixed (by kernel_rfl) rfl (lenAll (Vv rfl (Vv rfl Yw))) rfl _ rfl rfl ?_
    refine Yd rfl rfl (Vb rfl tf_72_3 ts_70 (by decide)) ?_
    refine Yd rfl rfl (Vj rfl (Vg rfl rfl) rfl ta_70 rfl) ?_
    refine Yd rfl rfl (Vk rfl) ?_
    refine Yd rfl rfl (Zp rfl rfl rfl) ?_
    refine Yd rfl rfl (Xo (Xu rfl rfl h12 te_70 ts_106) (v' := .vptr [.int .i64 x11.Flow, .int .i64 x11.Pressure] 0) rfl) ?_
    refine Yd rfl rfl (Xq rfl tf_106_1 ts_3 (by decide)) ?_
    refine Yd rfl rfl (Xe rfl ta_3 rfl) ?_
    refine Yd rfl rfl (Vb rfl tf_72_3 ts_70 (by decide)) ?_
    refine Yd rfl rfl (Vj rfl (Vg rfl rfl) rfl ta_70 rfl) ?_
    refine Yd rfl rfl (Vk rfl) ?_
    refine Yd rfl rfl (Zp rfl rfl rfl) ?_
    refine Yd rfl rfl (Xo (Xu rfl rfl h14 te_70 ts_106) (v' := .vptr [.int .i64 x13.Flow, .int .i64 x13.Pressure] 0) rfl) ?_
    refine Yd rfl rfl (Xq rfl tf_106_1 ts_3 (by decide)) ?_
    refine Yd rfl rfl (Xe rfl ta_3 rfl) ?_
    refine Yd rfl rfl (Ye (vs := [(0, .int .i64 x11.Pressure), (1, .int .i64 x13.Pressure)]) (ds := [.int .i64 x11.Pressure, .int .i64 x13.Pressure]) tz_44 rfl rfl tp_44 ⟨rfl, rfl, rfl, rfl, trivial⟩ (Yh rfl) rfl) ?_
    refine Ya rfl rfl rfl (Vw (p := .agg [.int .i64 x11.Pressure, .int .i64 x13.Pressure]) (e' := .agg [.int .i64 x11.Pressure, .int .i64 x13.Pressure]) rfl (Vg rfl rfl) rfl rfl ts_44 rfl (Yg rfl) rfl (We rfl) rfl (Xn rfl rfl)) ?_
    refine Yx ?_
    refine Yb ?_
    obtain rfl := Wd hF
    refine fnR ?_
    exact Vm rfl [(1, 0)] (by decide) ⟨Vt 0 1 rfl rfl, trivial⟩ ⟨⟨_, rfl, rfl, .same _ _ _ _ (Vn ⟨Vo ⟨.int _ _, .int _ _, trivial⟩, trivial⟩)⟩, trivial⟩
   ·have hF := Yr c10 hF
    refine Xj ?_
    refine Vf ?_
    refine Vd ?_
    refine Va (Xv rfl) rfl ?_
    refine Ve ?_
    refine Vf ?_
    refine Xh ?_
    obtain ⟨o16, ho16, hF⟩ := Yf hF
    refine Vs (Yy (F_ref07_Inner_L1 p0 p1) (fun s15 E' lw lc => Xz E' lw lc [(1, .int .i64 p1), (2, .ptr (low.length + 0) 0 0 0), (4, .ptr (low.length + 1) 0 0 0), (6, .int .i64 s15)] low [⟨72, 4, [.agg [.int .i64 p0.Road, .bool p0.Back, .bool p0.Auxiliary, .vs 2 (Wa T_Point.enc p0.Curve)]], 0⟩, ⟨44, 2, [.agg [.int .i64 0, .int .i64 0]], 0⟩]) (fun o16 => OnlyE (.exit 0) (fun E' lw lc => Xz E' lw lc [(1, .int .i64 p1), (2, .ptr (low.length + 0) 0 0 0), (4, .ptr (low.length + 1) 0 0 0), (6, .int .i64 o16)] low [⟨72, 4, [.agg [.int .i64 p0.Road, .bool p0.Back, .bool p0.Auxiliary, .vs 2 (Wa T_Point.enc p0.Curve)]], 0⟩, ⟨44, 2, [.agg [.int .i64 0, .int .i64 0]], 0⟩])) ho16 ?_ (by rintro _ _ _ _ ⟨h, _⟩ <;> cases h) ?_) ?_
    ·exact Vp ⟨rfl, rfl, rfl, rfl, trivial⟩
    ·rintro s15 os15 _ _ _ hF hw
     unfold F_ref07_Inner_L1 at hF
     refine Yl hw ?_
     refine Vf ?_
     refine Vf ?_
     refine Vd ?_
     obtain ⟨x17, h18, hF⟩ := Yf hF
     refine Va (Vb rfl tf_72_3 ts_70 (by decide)) rfl ?_
     refine Va (Vj rfl (Vg rfl rfl) rfl ta_70 rfl) rfl ?_
     refine Va (Vk rfl) rfl ?_
     refine Va (Zf rfl rfl rfl) rfl ?_
     refine Va (Xo (Xu rfl rfl h18 te_70 ts_106) (v' := .vptr [.int .i64 x17.Flow, .int .i64 x17.Pressure] 0) rfl) rfl ?_
     refine Va (Xq rfl tf_106_0 ts_3 (by decide)) rfl ?_
     refine Va (Xe rfl ta_3 rfl) rfl ?_
     refine Va (Vk rfl) rfl ?_
     refine Va (rd_leq rfl rfl) rfl ?_
     refine Ve ?_
     refine Xi rfl (fun c19 => ?_) (fun c19 => ?_)
     ·have hF := Yq c19 hF
      refine Xj ?_
      refine Xh ?_
      refine Vd ?_
      refine Va (Vk rfl) rfl ?_
      refine Va (Zf rfl rfl rfl) rfl ?_
      refine Va (Xv rfl) rfl ?_
      refine Ve ?_
      obtain rfl := Wd hF
      refine Xk ?_
      exact Vp ⟨rfl, rfl, rfl, rfl, trivial⟩
     ·have hF := Yr c19 hF
      refine Zd ?_
      obtain rfl := Wd hF
      refine Xk ?_
      exact Vp ⟨rfl, rfl, rfl, rfl, trivial⟩
    ·rintro _ _ _ _ ⟨rfl, hw⟩
     refine ⟨_, _, _, hw, ?_⟩
     refine Vf ?_
     obtain ⟨x20, h21, hF⟩ := Yf hF
     obtain ⟨x22, h23, hF⟩ := Yf hF
     refine Yl (weak_room 106 2 (Wf _)) ?_
     refine Yl (weak_room 106 2 (Wf _)) ?_
     refine vwp_drawnX [[], [0], [], [0, 1, 2], [0, 1, 2, 3], [], [5], [], [7], [5, 6, 7, 8], [5, 6, 7, 8, 9], [], [], [0, 1, 2, 3, 4, 11, 12], [0, 1, 2, 3, 4, 5, 6, 7, 8, 9, 10, 11, 12, 13]] [false, false, false, false, false, false, false, false, false, false, false, true, true, true, true] [([], low, [⟨72, 4, [.agg [.int .i64 p0.Road, .bool p0.Back, .bool p0.Auxiliary, .vs 2 (Wa T_Point.enc p0.Curve)]], 0⟩, ⟨44, 2, [.agg [.int .i64 0, .int .i64 0]], 0⟩, ⟨106, 2, [], 0⟩, ⟨106, 2, [], 0⟩]), ([11], low, [⟨72, 4, [.agg [.int .i64 p0.Road, .bool p0.Back, .bool p0.Auxiliary, .vs 2 (Wa T_Point.enc p0.Curve)]], 0⟩, ⟨44, 2, [.agg [.int .i64 0, .int .i64 0]], 0⟩, ⟨106, 2, [.agg [.int .i64 0, .int .i64 0]], 1⟩, ⟨106, 2, [], 0⟩]), ([12], low, [⟨72, 4, [.agg [.int .i64 p0.Road, .bool p0.Back, .bool p0.Auxiliary, .vs 2 (Wa T_Point.enc p0.Curve)]], 0⟩, ⟨44, 2, [.agg [.int .i64 0, .int .i64 0]], 0⟩, ⟨106, 2, [], 0⟩, ⟨106, 2, [.agg [.int .i64 0, .int .i64 0]], 1⟩]), ([11, 12], low, [⟨72, 4, [.agg [.int .i64 p0.Road, .bool p0.Back, .bool p0.Auxiliary, .vs 2 (Wa T_Point.enc p0.Curve)]], 0⟩, ⟨44, 2, [.agg [.int .i64 0, .int .i64 0]], 0⟩, ⟨106, 2, [.agg [.int .i64 0, .int .i64 0]], 1⟩, ⟨106, 2, [.agg [.int .i64 0, .int .i64 0]], 1⟩]), ([11, 12, 13], low, [⟨72, 4, [.agg [.int .i64 p0.Road, .bool p0.Back, .bool p0.Auxiliary, .vs 2 (Wa T_Point.enc p0.Curve)]], 0⟩, ⟨44, 2, [.agg [.int .i64 0, .int .i64 0]], 0⟩, ⟨106, 2, [.agg [.int .i64 x20.Flow, .int .i64 x20.Pressure]], 1⟩, ⟨106, 2, [.agg [.int .i64 0, .int .i64 0]], 1⟩]), ([11, 12, 13, 14], low, [⟨72, 4, [.agg [.int .i64 p0.Road, .bool p0.Back, .bool p0.Auxiliary, .vs 2 (Wa T_Point.enc p0.Curve)]], 0⟩, ⟨44, 2, [.agg [.int .i64 0, .int .i64 0]], 0⟩, ⟨106, 2, [.agg [.int .i64 x20.Flow, .int .i64 x20.Pressure]], 1⟩, ⟨106, 2, [.agg [.int .i64 x22.Flow, .int .i64 x22.Pressure]], 1⟩])] mixed (by kernel_rfl) rfl (lenAllX (allx1 rfl (allx1 rfl (allx1 rfl (allx1 rfl (allx1 rfl (allx1 rfl allx0))))))) rfl [11, 12, 13, 14] (low, [⟨72, 4, [.agg [.int .i64 p0.Road, .bool p0.Back, .bool p0.Auxiliary, .vs 2 (Wa T_Point.enc p0.Curve)]], 0⟩, ⟨44, 2, [.agg [.int .i64 0, .int .i64 0]], 0⟩, ⟨106, 2, [.agg [.int .i64 x20.Flow, .int .i64 x20.Pressure]], 1⟩, ⟨106, 2, [.agg [.int .i64 x22.Flow, .int .i64 x22.Pressure]], 1⟩]) rfl rfl ?_
     refine Zt _ rfl rfl (Zu (VRd.ntl (Vb rfl tf_72_3 ts_70 (by decide))) (Zu (VRd.ntl (Vb rfl tf_72_3 ts_70 (by decide))) (Zu (VRd.ntl (Vb rfl tf_72_3 ts_70 (by decide))) (Zu (VRd.ntl (Vb rfl tf_72_3 ts_70 (by decide))) rx0)))) ?_
     refine Zt _ rfl rfl (Zu (VRd.ntl (Vj rfl (Vg rfl rfl) rfl ta_70 rfl)) (Zu (VRd.ntl (Vj rfl (Vg rfl rfl) rfl ta_70 rfl)) (Zu (VRd.ntl (Vj rfl (Vg rfl rfl) rfl ta_70 rfl)) (Zu (VRd.ntl (Vj rfl (Vg rfl rfl) rfl ta_70 rfl)) rx0)))) ?_
     refine Zt _ rfl rfl (Zu (VRd.ntl (Vk rfl)) (Zu (VRd.ntl (Vk rfl)) (Zu (VRd.ntl (Vk rfl)) (Zu (VRd.ntl (Vk rfl)) rx0)))) ?_
     refine Zt _ rfl rfl (Zu (VRd.ntl (Xo (Xu rfl rfl h21 te_70 ts_106) (v' := .vptr [.int .i64 x20.Flow, .int .i64 x20.Pressure] 0) rfl)) (Zu (VRd.ntl (Xo (Xu rfl rfl h21 te_70 ts_106) (v' := .vptr [.int .i64 x20.Flow, .int .i64 x20.Pressure] 0) rfl)) (Zu (VRd.ntl (Xo (Xu rfl rfl h21 te_70 ts_106) (v' := .vptr [.int .i64 x20.Flow, .int .i64 x20.Pressure] 0) rfl)) (Zu (VRd.ntl (Xo (Xu rfl rfl h21 te_70 ts_106) (v' := .vptr [.int .i64 x20.Flow, .int .i64 x20.Pressure] 0) rfl)) rx0)))) ?_
     refine Zt _ rfl rfl (Zu (VRd.ntl (Zo (ds := [.int .i64 x20.Flow, .int .i64 x20.Pressure]) rfl ta_106 ts_106 rfl rfl)) (Zu (VRd.ntl (Zo (ds := [.int .i64 x20.Flow, .int .i64 x20.Pressure]) rfl ta_106 ts_106 rfl rfl)) (Zu (VRd.ntl (Zo (ds := [.int .i64 x20.Flow, .int .i64 x20.Pressure]) rfl ta_106 ts_106 rfl rfl)) (Zu (VRd.ntl (Zo (ds := [.int .i64 x20.Flow, .int .i64 x20.Pressure]) rfl ta_106 ts_106 rfl rfl)) rx0)))) ?_
     refine Zt _ rfl rfl (Zu (VRd.ntl (Vb rfl tf_72_3 ts_70 (by decide))) (Zu (VRd.ntl (Vb rfl tf_72_3 ts_70 (by decide))) (Zu (VRd.ntl (Vb rfl tf_72_3 ts_70 (by decide))) (Zu (VRd.ntl (Vb rfl tf_72_3 ts_70 (by decide))) (Zu (VRd.ntl (Vb rfl tf_72_3 ts_70 (by decide))) rx0))))) ?_
     refine Zt _ rfl rfl (Zu (VRd.ntl (Vj rfl (Vg rfl rfl) rfl ta_70 rfl)) (Zu (VRd.ntl (Vj rfl (Vg rfl rfl) rfl ta_70 rfl)) (Zu (VRd.ntl (Vj rfl (Vg rfl rfl) rfl ta_70 rfl)) (Zu (VRd.ntl (Vj rfl (Vg rfl rfl) rfl ta_70 rfl)) (Zu (VRd.ntl (Vj rfl (Vg rfl rfl) rfl ta_70 rfl)) rx0))))) ?_
     refine Zt _ rfl rfl (Zu (VRd.ntl (Vk rfl)) (Zu (VRd.ntl (Vk rfl)) (Zu (VRd.ntl (Vk rfl)) (Zu (VRd.ntl (Vk rfl)) (Zu (VRd.ntl (Vk rfl)) rx0))))) ?_
     refine Zt _ rfl rfl (Zu (VRd.ntl (Zf rfl rfl rfl)) (Zu (VRd.ntl (Zf rfl rfl rfl)) (Zu (VRd.ntl (Zf rfl rfl rfl)) (Zu (VRd.ntl (Zf rfl rfl rfl)) (Zu (VRd.ntl (Zf rfl rfl rfl)) rx0))))) ?_
     refine Zt _ rfl rfl (Zu (VRd.ntl (Xo (Xu rfl rfl h23 te_70 ts_106) (v' := .vptr [.int .i64 x22.Flow, .int .i64 x22.Pressure] 0) rfl)) (Zu (VRd.ntl (Xo (Xu rfl rfl h23 te_70 ts_106) (v' := .vptr [.int .i64 x22.Flow, .int .i64 x22.Pressure] 0) rfl)) (Zu (VRd.ntl (Xo (Xu rfl rfl h23 te_70 ts_106) (v' := .vptr [.int .i64 x22.Flow, .int .i64 x22.Pressure] 0) rfl)) (Zu (VRd.ntl (Xo (Xu rfl rfl h23 te_70 ts_106) (v' := .vptr [.int .i64 x22.Flow, .int .i64 x22.Pressure] 0) rfl)) (Zu (VRd.ntl (Xo (Xu rfl rfl h23 te_70 ts_106) (v' := .vptr [.int .i64 x22.Flow, .int .i64 x22.Pressure] 0) rfl)) rx0))))) ?_
     refine Zt _ rfl rfl (Zu (VRd.ntl (Zo (ds := [.int .i64 x22.Flow, .int .i64 x22.Pressure]) rfl ta_106 ts_106 rfl rfl)) (Zu (VRd.ntl (Zo (ds := [.int .i64 x22.Flow, .int .i64 x22.Pressure]) rfl ta_106 ts_106 rfl rfl)) (Zu (VRd.ntl (Zo (ds := [.int .i64 x22.Flow, .int .i64 x22.Pressure]) rfl ta_106 ts_106 rfl rfl)) (Zu (VRd.ntl (Zo (ds := [.int .i64 x22.Flow, .int .i64 x22.Pressure]) rfl ta_106 ts_106 rfl rfl)) (Zu (VRd.ntl (Zo (ds := [.int .i64 x22.Flow, .int .i64 x22.Pressure]) rfl ta_106 ts_106 rfl rfl)) rx0))))) ?_
     refine dopx_ef _ rfl rfl (ex1 1 rfl (vef_into (f := 4) (k := 2) (m := 1) (os := [⟨106, 2, [.agg [.int .i64 0, .int .i64 0]], 0⟩]) (os' := [⟨106, 2, [.agg [.int .i64 0, .int .i64 0]], 1⟩]) (v := .ptr (low.length + 4) 0 0 0) rfl rfl rfl ⟨⟨_, rfl, rfl⟩, trivial⟩ (Xm rfl rfl tz_106 rfl rfl (Wf _) rfl) (mv_ptr 0 rfl rfl rfl rfl) ⟨.same _ _ _ (Vn ⟨(Vo ⟨.int _ _, .int _ _, trivial⟩), trivial⟩), trivial⟩ rfl) (ex1 3 rfl (vef_into (f := 4) (k := 2) (m := 1) (os := [⟨106, 2, [.agg [.int .i64 0, .int .i64 0]], 0⟩]) (os' := [⟨106, 2, [.agg [.int .i64 0, .int .i64 0]], 1⟩]) (v := .ptr (low.length + 4) 0 0 0) rfl rfl rfl ⟨⟨_, rfl, rfl⟩, trivial⟩ (Xm rfl rfl tz_106 rfl rfl (Wf _) rfl) (mv_ptr 0 rfl rfl rfl rfl) ⟨.same _ _ _ (Vn ⟨(Vo ⟨.int _ _, .int _ _, trivial⟩), trivial⟩), trivial⟩ rfl) ex0)) ?_
     refine dopx_ef _ rfl rfl (ex1 2 rfl (vef_into (f := 4) (k := 3) (m := 1) (os := [⟨106, 2, [.agg [.int .i64 0, .int .i64 0]], 0⟩]) (os' := [⟨106, 2, [.agg [.int .i64 0, .int .i64 0]], 1⟩]) (v := .ptr (low.length + 4) 0 0 0) rfl rfl rfl ⟨⟨_, rfl, rfl⟩, trivial⟩ (Xm rfl rfl tz_106 rfl rfl (Wf _) rfl) (mv_ptr 0 rfl rfl rfl rfl) ⟨.same _ _ _ (Vn ⟨(Vo ⟨.int _ _, .int _ _, trivial⟩), trivial⟩), trivial⟩ rfl) (ex1 3 rfl (vef_into (f := 4) (k := 3) (m := 1) (os := [⟨106, 2, [.agg [.int .i64 0, .int .i64 0]], 0⟩]) (os' := [⟨106, 2, [.agg [.int .i64 0, .int .i64 0]], 1⟩]) (v := .ptr (low.length + 4) 0 0 0) rfl rfl rfl ⟨⟨_, rfl, rfl⟩, trivial⟩ (Xm rfl rfl tz_106 rfl rfl (Wf _) rfl) (mv_ptr 0 rfl rfl rfl rfl) ⟨.same _ _ _ (Vn ⟨(Vo ⟨.int _ _, .int _ _, trivial⟩), trivial⟩), trivial⟩ rfl) ex0)) ?_
     refine dopx_ef _ rfl rfl (ex1 4 rfl (Vw (p := .agg [.int .i64 x20.Flow, .int .i64 x20.Pressure]) (e' := .agg [.int .i64 x20.Flow, .int .i64 x20.Pressure]) rfl (Vg rfl rfl) rfl rfl ts_106 rfl (Yg rfl) rfl (We rfl) rfl (Xn rfl rfl)) ex0) ?_
     refine dopx_ef _ rfl rfl (ex1 5 rfl (Vw (p := .agg [.int .i64 x22.Flow, .int .i64 x22.Pressure]) (e' := .agg [.int .i64 x22.Flow, .int .i64 x22.Pressure]) rfl (Vg rfl rfl) rfl rfl ts_106 rfl (Yg rfl) rfl (We rfl) rfl (Xn rfl rfl)) ex0) ?_
     refine dopx_nil ?_
     refine Vf ?_
     refine Zy [[], [0], [], [2], [0, 1, 2, 3], [], [], [6], [5, 6, 7], [0, 1, 2, 3, 4, 5, 6, 7, 8], [], [10], [], [12], [10, 11, 12, 13], [0, 1, 2, 3, 4, 5, 6, 7, 8, 9], [0, 1, 2, 3, 4, 5, 6, 7, 8, 9, 10, 11, 12, 13, 14, 15]] mixed (by kernel_rfl) rfl ?_
     refine Yd rfl rfl (Vb rfl tf_106_1 ts_3 (by decide)) ?_
     refine Yd rfl rfl (Vj rfl (Vg rfl rfl) rfl ta_3 rfl) ?_
     refine Yd rfl rfl (Vb rfl tf_106_1 ts_3 (by decide)) ?_
     refine Yd rfl rfl (Vj rfl (Vg rfl rfl) rfl ta_3 rfl) ?_
     refine Yd rfl rfl (Zp rfl rfl rfl) ?_
     refine Yd rfl rfl (Vk rfl) ?_
     refine Yd rfl rfl (Vb rfl tf_106_0 ts_3 (by decide)) ?_
     refine Yd rfl rfl (Vj rfl (Vg rfl rfl) rfl ta_3 rfl) ?_
     refine Yd rfl rfl (Zp rfl rfl rfl) ?_
     refine Yd rfl rfl (rd_mul rfl rfl rfl) ?_
     refine Yd rfl rfl (Vb rfl tf_106_0 ts_3 (by decide)) ?_
     refine Yd rfl rfl (Vj rfl (Vg rfl rfl) rfl ta_3 rfl) ?_
     refine Yd rfl rfl (Vb rfl tf_106_0 ts_3 (by decide)) ?_
     refine Yd rfl rfl (Vj rfl (Vg rfl rfl) rfl ta_3 rfl) ?_
     refine Yd rfl rfl (Zp rfl rfl rfl) ?_
     refine Yd rfl rfl (Xv rfl) ?_
     refine Yd rfl rfl (Xv rfl) ?_
     refine Yx ?_
     refine Vf ?_
     obtain ⟨x24, h25, hF⟩ := Yf hF
     obtain ⟨x26, h27, hF⟩ := Yf hF
     refine Zn [[], [0], [], [], [2, 3], [0, 1, 2, 3, 4], [], [6], [], [], [2, 3, 4, 8, 9], [2, 3, 4, 6, 7, 8, 9, 10], [0, 1, 2, 3, 4, 5, 6, 7, 8, 9, 10, 11], [0, 1, 2, 3, 4, 5, 6, 7, 8, 9, 10, 11, 12]] [false, false, false, false, false, false, false, false, false, false, false, false, false, true] [(low, [⟨72, 4, [.agg [.int .i64 p0.Road, .bool p0.Back, .bool p0.Auxiliary, .vs 2 (Wa T_Point.enc p0.Curve)]], 0⟩, ⟨44, 2, [.agg [.int .i64 0, .int .i64 0]], 0⟩, ⟨106, 2, [.agg [.int .i64 x20.Flow, .int .i64 x20.Pressure]], 1⟩, ⟨106, 2, [.agg [.int .i64 x22.Flow, .int .i64 x22.Pressure]], 1⟩]), (low, [⟨72, 4, [.agg [.int .i64 p0.Road, .bool p0.Back, .bool p0.Auxiliary, .vs 2 (Wa T_Point.enc p0.Curve)]], 0⟩, ⟨44, 2, [.agg [.int .i64 (IntKind.i64.wrap (x20.Pressure + x24)), .int .i64 (IntKind.i64.wrap (x20.Pressure + x26))]], 0⟩, ⟨106, 2, [.agg [.int .i64 x20.Flow, .int .i64 x20.Pressure]], 1⟩, ⟨106, 2, [.agg [.int .i64 x22.Flow, .int .i64 x22.Pressure]], 1⟩])] mixed (by kernel_rfl) rfl (lenAll (Vv rfl (Vv rfl Yw))) rfl _ rfl rfl ?_
     refine Yd rfl rfl (Vb rfl tf_106_1 ts_3 (by decide)) ?_
     refine Yd rfl rfl (Vj rfl (Vg rfl rfl) rfl ta_3 rfl) ?_
     refine Yd rfl rfl (Vk rfl) ?_
     refine Yd rfl rfl (Vk rfl) ?_
     refine dn1 rfl rfl (nt_of (Xx rfl Try.call52 (F_ref05_Floor_ok h25 _))) ?_
     refine Yd rfl rfl (Zf rfl rfl rfl) ?_
     refine Yd rfl rfl (Vb rfl tf_106_1 ts_3 (by decide)) ?_
     refine Yd rfl rfl (Vj rfl (Vg rfl rfl) rfl ta_3 rfl) ?_
     refine Yd rfl rfl (Vk rfl) ?_
     refine Yd rfl rfl (Vk rfl) ?_
     refine dn1 rfl rfl (nt_of (Xx rfl Try.call53 (F_ref05_Ceil_ok h27 _))) ?_
     refine Yd rfl rfl (Zf rfl rfl rfl) ?_
     refine Yd rfl rfl (Ye (vs := [(0, .int .i64 (IntKind.i64.wrap (x20.Pressure + x24))), (1, .int .i64 (IntKind.i64.wrap (x20.Pressure + x26)))]) (ds := [.int .i64 (IntKind.i64.wrap (x20.Pressure + x24)), .int .i64 (IntKind.i64.wrap (x20.Pressure + x26))]) tz_44 rfl rfl tp_44 ⟨rfl, rfl, rfl, rfl, trivial⟩ (Yh rfl) rfl) ?_
     refine Ya rfl rfl rfl (Vw (p := .agg [.int .i64 (IntKind.i64.wrap (x20.Pressure + x24)), .int .i64 (IntKind.i64.wrap (x20.Pressure + x26))]) (e' := .agg [.int .i64 (IntKind.i64.wrap (x20.Pressure + x24)), .int .i64 (IntKind.i64.wrap (x20.Pressure + x26))]) rfl (Vg rfl rfl) rfl rfl ts_44 rfl (Yg rfl) rfl (We rfl) rfl (Xn rfl rfl)) ?_
     refine Yx ?_
     refine Yb ?_
     obtain rfl := Wd hF
     refine fnR ?_
     exact Vm rfl [(1, 0)] (by decide) ⟨Vt 0 1 rfl rfl, trivial⟩ ⟨⟨_, rfl, rfl, .same _ _ _ _ (Vn ⟨Vo ⟨.int _ _, .int _ _, trivial⟩, trivial⟩)⟩, trivial⟩
 ·rintro _ _ _ _ ⟨he, hw⟩
  refine ⟨_, _, _, hw, ?_⟩
  exact Zc he [.agg [.int .i64 r.Low, .int .i64 r.High]] ⟨Xa rfl (Vg rfl rfl) rfl ta_44 ts_44 rfl rfl rfl, trivial⟩ ((Vo ⟨.int _ _, .int _ _, trivial⟩)) ⟨rfl, rfl⟩

theorem F_ref07_Along_ok {p0 : T_Fan} {p1 : Bool} {p2 : Int} {r : T_Span} (hF : F_ref07_Along p0 p1 p2 = some r) (low : List AObj) :
    Zh Try.prog 49 [.agg [.int .i64 p0.Road, .bool p0.Back, .bool p0.Auxiliary, .vs 2 (Wa T_Point.enc p0.Curve)], .bool p1, .int .i64 p2] low fun x low' => x = .agg [.int .i64 r.Low, .int .i64 r.High] ∧ low' = low := by
 refine Xr (nt := 23) (rs := [.cell 6 44]) Try.func49 rfl rfl (We rfl) rfl ?_
 refine Vs (Q' := FnE (fun E' lw lc => Xz E' lw lc [(6, .ptr (low.length + 0) 0 0 0)] low [⟨44, 2, [.agg [.int .i64 r.Low, .int .i64 r.High]], 0⟩])) ?_ ?_
 ·unfold F_ref07_Along at hF
  refine Vf ?_
  refine Vd ?_
  refine Vi (Zx rfl rfl (v := .agg [.int .i64 p0.Road, .bool p0.Back, .bool p0.Auxiliary, .vs 2 (Wa T_Point.enc p0.Curve)]) rfl rfl (Wf _) rfl rfl) rfl ?_
  refine Vi (Xm rfl rfl tz_44 rfl rfl (Wf _) rfl) rfl ?_
  refine Ve ?_
  refine Vf ?_
  refine Vf ?_
  refine Vd ?_
  refine Va (Vr rfl) rfl ?_
  refine Ve ?_
  refine Xi rfl (fun c1 => ?_) (fun c1 => ?_)
  ·have hF := Yq c1 hF
   refine Vf ?_
   refine Vd ?_
   obtain ⟨x2, h3, hF⟩ := Yf hF
   refine Va (Xa (ds := [.int .i64 p0.Road, .bool p0.Back, .bool p0.Auxiliary, .vs 2 (Wa T_Point.enc p0.Curve)]) rfl (Vg rfl rfl) rfl ta_72 ts_72 rfl rfl rfl) rfl ?_
   refine Va (Vk rfl) rfl ?_
   refine Va (rd_neg rfl rfl) rfl ?_
   refine Vi (Xx rfl Try.call51 (F_ref07_Inner_ok h3 _)) rfl ?_
   refine Vi (Xm rfl rfl tz_44 rfl rfl (Wf _) rfl) rfl ?_
   refine Vi (Vw (p := .agg [.int .i64 x2.Low, .int .i64 x2.High]) (e' := .agg [.int .i64 x2.Low, .int .i64 x2.High]) rfl (Vg rfl rfl) rfl rfl ts_44 rfl (Yg rfl) rfl (We rfl) rfl (Xn rfl rfl)) rfl ?_
   refine Ve ?_
   refine Vf ?_
   refine Vd ?_
   refine Va (Vb rfl tf_44_1 ts_3 (by decide)) rfl ?_
   refine Va (Vj rfl (Vg rfl rfl) rfl ta_3 rfl) rfl ?_
   refine Va (rd_neg rfl rfl) rfl ?_
   refine Va (Vb rfl tf_44_0 ts_3 (by decide)) rfl ?_
   refine Va (Vj rfl (Vg rfl rfl) rfl ta_3 rfl) rfl ?_
   refine Va (rd_neg rfl rfl) rfl ?_
   refine Va (Ye (vs := [(0, .int .i64 (IntKind.i64.wrap (0 - x2.High))), (1, .int .i64 (IntKind.i64.wrap (0 - x2.Low)))]) (ds := [.int .i64 (IntKind.i64.wrap (0 - x2.High)), .int .i64 (IntKind.i64.wrap (0 - x2.Low))]) tz_44 rfl rfl tp_44 ⟨rfl, rfl, rfl, rfl, trivial⟩ (Yh rfl) rfl) rfl ?_
   refine Vi (Vw (p := .agg [.int .i64 (IntKind.i64.wrap (0 - x2.High)), .int .i64 (IntKind.i64.wrap (0 - x2.Low))]) (e' := .agg [.int .i64 (IntKind.i64.wrap (0 - x2.High)), .int .i64 (IntKind.i64.wrap (0 - x2.Low))]) rfl (Vg rfl rfl) rfl rfl ts_44 rfl (Yg rfl) rfl (We rfl) rfl (Xn rfl rfl)) rfl ?_
   refine Ve ?_
   refine Yb ?_
   obtain rfl := Wd hF
   refine fnR ?_
   exact Vm rfl [(1, 0)] (by decide) ⟨Vt 0 1 rfl rfl, trivial⟩ ⟨⟨_, rfl, rfl, .same _ _ _ _ (Vn ⟨Vo ⟨.int _ _, .int _ _, trivial⟩, trivial⟩)⟩, trivial⟩
  ·have hF := Yr c1 hF
   refine Xj ?_
   refine Vf ?_
   refine Vd ?_
   obtain ⟨x4, h5, hF⟩ := Yf hF
   refine Va (Xa (ds := [.int .i64 p0.Road, .bool p0.Back, .bool p0.Auxiliary, .vs 2 (Wa T_Point.enc p0.Curve)]) rfl (Vg rfl rfl) rfl ta_72 ts_72 rfl rfl rfl) rfl ?_
   refine Va (Vk rfl) rfl ?_
   refine Vi (Xx rfl Try.call51 (F_ref07_Inner_ok h5 _)) rfl ?_
   refine Vi (Vw (p := .agg [.int .i64 x4.Low, .int .i64 x4.High]) (e' := .agg [.int .i64 x4.Low, .int .i64 x4.High]) rfl (Vg rfl rfl) rfl rfl ts_44 rfl (Yg rfl) rfl (We rfl) rfl (Xn rfl rfl)) rfl ?_
   refine Ve ?_
   refine Yb ?_
   obtain rfl := Wd hF
   refine fnR ?_
   exact Vm rfl [(1, 0)] (by decide) ⟨Vt 0 1 rfl rfl, trivial⟩ ⟨⟨_, rfl, rfl, .same _ _ _ _ (Vn ⟨Vo ⟨.int _ _, .int _ _, trivial⟩, trivial⟩)⟩, trivial⟩
 ·rintro _ _ _ _ ⟨he, hw⟩
  refine ⟨_, _, _, hw, ?_⟩
  exact Zc he [.agg [.int .i64 r.Low, .int .i64 r.High]] ⟨Xa rfl (Vg rfl rfl) rfl ta_44 ts_44 rfl rfl rfl, trivial⟩ ((Vo ⟨.int _ _, .int _ _, trivial⟩)) ⟨rfl, rfl⟩

theorem F_ref07_State_ok {p0 : T_Fan} {p1 : Int} {p2 : Int} {r : T_Span} (hF : F_ref07_State p0 p1 p2 = some r) (low : List AObj) :
    Zh Try.prog 46 [.agg [.int .i64 p0.Road, .bool p0.Back, .bool p0.Auxiliary, .vs 2 (Wa T_Point.enc p0.Curve)], .int .i64 p1, .int .i64 p2] low fun x low' => x = .agg [.int .i64 r.Low, .int .i64 r.High] ∧ low' = low := by
 refine Xr (nt := 45) (rs := [.cell 6 44]) Try.func46 rfl rfl (We rfl) rfl ?_
 refine Vs (Q' := FnE (fun E' lw lc => Xz E' lw lc [(6, .ptr (low.length + 0) 0 0 0)] low [⟨44, 2, [.agg [.int .i64 r.Low, .int .i64 r.High]], 0⟩])) ?_ ?_
 ·unfold F_ref07_State at hF
  refine Vf ?_
  refine Vd ?_
  refine Vi (Zx rfl rfl (v := .agg [.int .i64 p0.Road, .bool p0.Back, .bool p0.Auxiliary, .vs 2 (Wa T_Point.enc p0.Curve)]) rfl rfl (Wf _) rfl rfl) rfl ?_
  refine Vi (Xm rfl rfl tz_44 rfl rfl (Wf _) rfl) rfl ?_
  refine Ve ?_
  refine Vf ?_
  refine Vf ?_
  refine Vd ?_
  refine Va (Vk rfl) rfl ?_
  refine Ve ?_
  refine Xh ?_
  refine Vf ?_
  refine Vd ?_
  refine Va (Zk rfl rfl) rfl ?_
  refine Va (Zi rfl) rfl ?_
  refine Ve ?_
  refine Xi rfl (fun c1 => ?_) (fun c1 => ?_)
  ·have hF := Yq c1 hF
   refine Vf ?_
   refine Vd ?_
   refine Va (Ye (vs := []) (ds := [.int .i64 0, .int .i64 0]) tz_44 rfl rfl tp_44 trivial (Yh rfl) rfl) rfl ?_
   refine Vi (Vw (p := .agg [.int .i64 0, .int .i64 0]) (e' := .agg [.int .i64 0, .int .i64 0]) rfl (Vg rfl rfl) rfl rfl ts_44 rfl (Yg rfl) rfl (We rfl) rfl (Xn rfl rfl)) rfl ?_
   refine Ve ?_
   refine Yb ?_
   obtain rfl := Wd hF
   refine fnR ?_
   exact Vm rfl [(1, 0)] (by decide) ⟨Vt 0 1 rfl rfl, trivial⟩ ⟨⟨_, rfl, rfl, .same _ _ _ _ (Vn ⟨Vo ⟨.int _ _, .int _ _, trivial⟩, trivial⟩)⟩, trivial⟩
  ·have hF := Yr c1 hF
   refine Vf ?_
   refine Vd ?_
   refine Va (Zk rfl rfl) rfl ?_
   refine Va (Zi rfl) rfl ?_
   refine Ve ?_
   refine Xi rfl (fun c2 => ?_) (fun c2 => ?_)
   ·have hF := Yq c2 hF
    refine Vf ?_
    refine Vd ?_
    obtain ⟨x3, h4, hF⟩ := Yf hF
    refine Va (Xa (ds := [.int .i64 p0.Road, .bool p0.Back, .bool p0.Auxiliary, .vs 2 (Wa T_Point.enc p0.Curve)]) rfl (Vg rfl rfl) rfl ta_72 ts_72 rfl rfl rfl) rfl ?_
    refine Va (Vb rfl tf_72_1 ts_4 (by decide)) rfl ?_
    refine Va (Vj rfl (Vg rfl rfl) rfl ta_4 rfl) rfl ?_
    refine Va (Vk rfl) rfl ?_
    refine Vi (Xx rfl Try.call49 (F_ref07_Along_ok h4 _)) rfl ?_
    refine Vi (Vw (p := .agg [.int .i64 x3.Low, .int .i64 x3.High]) (e' := .agg [.int .i64 x3.Low, .int .i64 x3.High]) rfl (Vg rfl rfl) rfl rfl ts_44 rfl (Yg rfl) rfl (We rfl) rfl (Xn rfl rfl)) rfl ?_
    refine Ve ?_
    refine Yb ?_
    obtain rfl := Wd hF
    refine fnR ?_
    exact Vm rfl [(1, 0)] (by decide) ⟨Vt 0 1 rfl rfl, trivial⟩ ⟨⟨_, rfl, rfl, .same _ _ _ _ (Vn ⟨Vo ⟨.int _ _, .int _ _, trivial⟩, trivial⟩)⟩, trivial⟩
   ·have hF := Yr c2 hF
    refine Vf ?_
    refine Vd ?_
    refine Va (Zk rfl rfl) rfl ?_
    refine Va (Zi rfl) rfl ?_
    refine Ve ?_
    refine Xi rfl (fun c5 => ?_) (fun c5 => ?_)
    ·have hF := Yq c5 hF
     refine Vf ?_
     refine Vd ?_
     obtain ⟨x6, h7, hF⟩ := Yf hF
     refine Va (Xa (ds := [.int .i64 p0.Road, .bool p0.Back, .bool p0.Auxiliary, .vs 2 (Wa T_Point.enc p0.Curve)]) rfl (Vg rfl rfl) rfl ta_72 ts_72 rfl rfl rfl) rfl ?_
     refine Va (Vb rfl tf_72_1 ts_4 (by decide)) rfl ?_
     refine Va (Vj rfl (Vg rfl rfl) rfl ta_4 rfl) rfl ?_
     refine Va (rd_not rfl) rfl ?_
     refine Va (Vk rfl) rfl ?_
     refine Vi (Xx rfl Try.call49 (F_ref07_Along_ok h7 _)) rfl ?_
     refine Vi (Vw (p := .agg [.int .i64 x6.Low, .int .i64 x6.High]) (e' := .agg [.int .i64 x6.Low, .int .i64 x6.High]) rfl (Vg rfl rfl) rfl rfl ts_44 rfl (Yg rfl) rfl (We rfl) rfl (Xn rfl rfl)) rfl ?_
     refine Ve ?_
     refine Yb ?_
     obtain rfl := Wd hF
     refine fnR ?_
     exact Vm rfl [(1, 0)] (by decide) ⟨Vt 0 1 rfl rfl, trivial⟩ ⟨⟨_, rfl, rfl, .same _ _ _ _ (Vn ⟨Vo ⟨.int _ _, .int _ _, trivial⟩, trivial⟩)⟩, trivial⟩
    ·have hF := Yr c5 hF
     refine Xj ?_
     refine Vf ?_
     obtain ⟨x8, h9, hF⟩ := Yf hF
     obtain ⟨x10, h11, hF⟩ := Yf hF
     refine Yl (weak_room 44 2 (Wf _)) ?_
     refine Yl (weak_room 44 2 (Wf _)) ?_
     refine vwp_drawnX [[], [], [0, 1], [], [], [0, 1, 2, 3, 4], [], [], [0, 1, 2, 3, 4, 5, 6, 7], [0, 1, 2, 3, 4, 5, 6, 7, 8]] [false, false, false, false, false, false, true, true, true, true] [([], low, [⟨72, 4, [.agg [.int .i64 p0.Road, .bool p0.Back, .bool p0.Auxiliary, .vs 2 (Wa T_Point.enc p0.Curve)]], 0⟩, ⟨44, 2, [.agg [.int .i64 0, .int .i64 0]], 0⟩, ⟨44, 2, [], 0⟩, ⟨44, 2, [], 0⟩]), ([6], low, [⟨72, 4, [.agg [.int .i64 p0.Road, .bool p0.Back, .bool p0.Auxiliary, .vs 2 (Wa T_Point.enc p0.Curve)]], 0⟩, ⟨44, 2, [.agg [.int .i64 0, .int .i64 0]], 0⟩, ⟨44, 2, [.agg [.int .i64 0, .int .i64 0]], 1⟩, ⟨44, 2, [], 0⟩]), ([7], low, [⟨72, 4, [.agg [.int .i64 p0.Road, .bool p0.Back, .bool p0.Auxiliary, .vs 2 (Wa T_Point.enc p0.Curve)]], 0⟩, ⟨44, 2, [.agg [.int .i64 0, .int .i64 0]], 0⟩, ⟨44, 2, [], 0⟩, ⟨44, 2, [.agg [.int .i64 0, .int .i64 0]], 1⟩]), ([6, 7], low, [⟨72, 4, [.agg [.int .i64 p0.Road, .bool p0.Back, .bool p0.Auxiliary, .vs 2 (Wa T_Point.enc p0.Curve)]], 0⟩, ⟨44, 2, [.agg [.int .i64 0, .int .i64 0]], 0⟩, ⟨44, 2, [.agg [.int .i64 0, .int .i64 0]], 1⟩, ⟨44, 2, [.agg [.int .i64 0, .int .i64 0]], 1⟩]), ([6, 7, 8], low, [⟨72, 4, [.agg [.int .i64 p0.Road, .bool p0.Back, .bool p0.Auxiliary, .vs 2 (Wa T_Point.enc p0.Curve)]], 0⟩, ⟨44, 2, [.agg [.int .i64 0, .int .i64 0]], 0⟩, ⟨44, 2, [.agg [.int .i64 x8.Low, .int .i64 x8.High]], 1⟩, ⟨44, 2, [.agg [.int .i64 0, .int .i64 0]], 1⟩]), ([6, 7, 8, 9], low, [⟨72, 4, [.agg [.int .i64 p0.Road, .bool p0.Back, .bool p0.Auxiliary, .vs 2 (Wa T_Point.enc p0.Curve)]], 0⟩, ⟨44, 2, [.agg [.int .i64 0, .int .i64 0]], 0⟩, ⟨44, 2, [.agg [.int .i64 x8.Low, .int .i64 x8.High]], 1⟩, ⟨44, 2, [.agg [.int .i64 x10.Low, .int .i64 x10.High]], 1⟩])] mixed (by kernel_rfl) rfl (lenAllX (allx1 rfl (allx1 rfl (allx1 rfl (allx1 rfl (allx1 rfl (allx1 rfl allx0))))))) rfl [6, 7, 8, 9] (low, [⟨72, 4, [.agg [.int .i64 p0.Road, .bool p0.Back, .bool p0.Auxiliary, .vs 2 (Wa T_Point.enc p0.Curve)]], 0⟩, ⟨44, 2, [.agg [.int .i64 0, .int .i64 0]], 0⟩, ⟨44, 2, [.agg [.int .i64 x8.Low, .int .i64 x8.High]], 1⟩, ⟨44, 2, [.agg [.int .i64 x10.Low, .int .i64 x10.High]], 1⟩]) rfl rfl ?_
     refine Zt _ rfl rfl (Zu (VRd.ntl (Xa (ds := [.int .i64 p0.Road, .bool p0.Back, .bool p0.Auxiliary, .vs 2 (Wa T_Point.enc p0.Curve)]) rfl (Vg rfl rfl) rfl ta_72 ts_72 rfl rfl rfl)) (Zu (VRd.ntl (Xa (ds := [.int .i64 p0.Road, .bool p0.Back, .bool p0.Auxiliary, .vs 2 (Wa T_Point.enc p0.Curve)]) rfl (Vg rfl rfl) rfl ta_72 ts_72 rfl rfl rfl)) (Zu (VRd.ntl (Xa (ds := [.int .i64 p0.Road, .bool p0.Back, .bool p0.Auxiliary, .vs 2 (Wa T_Point.enc p0.Curve)]) rfl (Vg rfl rfl) rfl ta_72 ts_72 rfl rfl rfl)) (Zu (VRd.ntl (Xa (ds := [.int .i64 p0.Road, .bool p0.Back, .bool p0.Auxiliary, .vs 2 (Wa T_Point.enc p0.Curve)]) rfl (Vg rfl rfl) rfl ta_72 ts_72 rfl rfl rfl)) rx0)))) ?_
     refine Zt _ rfl rfl (Zu (VRd.ntl (Vk rfl)) (Zu (VRd.ntl (Vk rfl)) (Zu (VRd.ntl (Vk rfl)) (Zu (VRd.ntl (Vk rfl)) rx0)))) ?_
     refine Zt _ rfl rfl (Zu (nt_of (Xx rfl Try.call49 (F_ref07_Along_ok h9 _))) (Zu (nt_of (Xx rfl Try.call49 (F_ref07_Along_ok h9 _))) (Zu (nt_of (Xx rfl Try.call49 (F_ref07_Along_ok h9 _))) (Zu (nt_of (Xx rfl Try.call49 (F_ref07_Along_ok h9 _))) rx0)))) ?_
     refine Zt _ rfl rfl (Zu (VRd.ntl (Xa (ds := [.int .i64 p0.Road, .bool p0.Back, .bool p0.Auxiliary, .vs 2 (Wa T_Point.enc p0.Curve)]) rfl (Vg rfl rfl) rfl ta_72 ts_72 rfl rfl rfl)) (Zu (VRd.ntl (Xa (ds := [.int .i64 p0.Road, .bool p0.Back, .bool p0.Auxiliary, .vs 2 (Wa T_Point.enc p0.Curve)]) rfl (Vg rfl rfl) rfl ta_72 ts_72 rfl rfl rfl)) (Zu (VRd.ntl (Xa (ds := [.int .i64 p0.Road, .bool p0.Back, .bool p0.Auxiliary, .vs 2 (Wa T_Point.enc p0.Curve)]) rfl (Vg rfl rfl) rfl ta_72 ts_72 rfl rfl rfl)) (Zu (VRd.ntl (Xa (ds := [.int .i64 p0.Road, .bool p0.Back, .bool p0.Auxiliary, .vs 2 (Wa T_Point.enc p0.Curve)]) rfl (Vg rfl rfl) rfl ta_72 ts_72 rfl rfl rfl)) rx0)))) ?_
     refine Zt _ rfl rfl (Zu (VRd.ntl (Vk rfl)) (Zu (VRd.ntl (Vk rfl)) (Zu (VRd.ntl (Vk rfl)) (Zu (VRd.ntl (Vk rfl)) rx0)))) ?_
     refine Zt _ rfl rfl (Zu (nt_of (Xx rfl Try.call49 (F_ref07_Along_ok h11 _))) (Zu (nt_of (Xx rfl Try.call49 (F_ref07_Along_ok h11 _))) (Zu (nt_of (Xx rfl Try.call49 (F_ref07_Along_ok h11 _))) (Zu (nt_of (Xx rfl Try.call49 (F_ref07_Along_ok h11 _))) rx0)))) ?_
     refine dopx_ef _ rfl rfl (ex1 1 rfl (vef_into (f := 4) (k := 2) (m := 1) (os := [⟨44, 2, [.agg [.int .i64 0, .int .i64 0]], 0⟩]) (os' := [⟨44, 2, [.agg [.int .i64 0, .int .i64 0]], 1⟩]) (v := .ptr (low.length + 4) 0 0 0) rfl rfl rfl ⟨⟨_, rfl, rfl⟩, trivial⟩ (Xm rfl rfl tz_44 rfl rfl (Wf _) rfl) (mv_ptr 0 rfl rfl rfl rfl) ⟨.same _ _ _ (Vn ⟨(Vo ⟨.int _ _, .int _ _, trivial⟩), trivial⟩), trivial⟩ rfl) (ex1 3 rfl (vef_into (f := 4) (k := 2) (m := 1) (os := [⟨44, 2, [.agg [.int .i64 0, .int .i64 0]], 0⟩]) (os' := [⟨44, 2, [.agg [.int .i64 0, .int .i64 0]], 1⟩]) (v := .ptr (low.length + 4) 0 0 0) rfl rfl rfl ⟨⟨_, rfl, rfl⟩, trivial⟩ (Xm rfl rfl tz_44 rfl rfl (Wf _) rfl) (mv_ptr 0 rfl rfl rfl rfl) ⟨.same _ _ _ (Vn ⟨(Vo ⟨.int _ _, .int _ _, trivial⟩), trivial⟩), trivial⟩ rfl) ex0)) ?_
     refine dopx_ef _ rfl rfl (ex1 2 rfl (vef_into (f := 4) (k := 3) (m := 1) (os := [⟨44, 2, [.agg [.int .i64 0, .int .i64 0]], 0⟩]) (os' := [⟨44, 2, [.agg [.int .i64 0, .int .i64 0]], 1⟩]) (v := .ptr (low.length + 4) 0 0 0) rfl rfl rfl ⟨⟨_, rfl, rfl⟩, trivial⟩ (Xm rfl rfl tz_44 rfl rfl (Wf _) rfl) (mv_ptr 0 rfl rfl rfl rfl) ⟨.same _ _ _ (Vn ⟨(Vo ⟨.int _ _, .int _ _, trivial⟩), trivial⟩), trivial⟩ rfl) (ex1 3 rfl (vef_into (f := 4) (k := 3) (m := 1) (os := [⟨44, 2, [.agg [.int .i64 0, .int .i64 0]], 0⟩]) (os' := [⟨44, 2, [.agg [.int .i64 0, .int .i64 0]], 1⟩]) (v := .ptr (low.length + 4) 0 0 0) rfl rfl rfl ⟨⟨_, rfl, rfl⟩, trivial⟩ (Xm rfl rfl tz_44 rfl rfl (Wf _) rfl) (mv_ptr 0 rfl rfl rfl rfl) ⟨.same _ _ _ (Vn ⟨(Vo ⟨.int _ _, .int _ _, trivial⟩), trivial⟩), trivial⟩ rfl) ex0)) ?_
     refine dopx_ef _ rfl rfl (ex1 4 rfl (Vw (p := .agg [.int .i64 x8.Low, .int .i64 x8.High]) (e' := .agg [.int .i64 x8.Low, .int .i64 x8.High]) rfl (Vg rfl rfl) rfl rfl ts_44 rfl (Yg rfl) rfl (We rfl) rfl (Xn rfl rfl)) ex0) ?_
     refine dopx_ef _ rfl rfl (ex1 5 rfl (Vw (p := .agg [.int .i64 x10.Low, .int .i64 x10.High]) (e' := .agg [.int .i64 x10.Low, .int .i64 x10.High]) rfl (Vg rfl rfl) rfl rfl ts_44 rfl (Yg rfl) rfl (We rfl) rfl (Xn rfl rfl)) ex0) ?_
     refine dopx_nil ?_
     refine Vf ?_
     refine Vd ?_
     refine Va (Vb rfl tf_44_0 ts_3 (by decide)) rfl ?_
     refine Va (Vj rfl (Vg rfl rfl) rfl ta_3 rfl) rfl ?_
     refine Va (Vb rfl tf_44_0 ts_3 (by decide)) rfl ?_
     refine Va (Vj rfl (Vg rfl rfl) rfl ta_3 rfl) rfl ?_
     refine Va (rd_min3 rfl rfl rfl) rfl ?_
     refine Va (Vb rfl tf_44_1 ts_3 (by decide)) rfl ?_
     refine Va (Vj rfl (Vg rfl rfl) rfl ta_3 rfl) rfl ?_
     refine Va (Vb rfl tf_44_1 ts_3 (by decide)) rfl ?_
     refine Va (Vj rfl (Vg rfl rfl) rfl ta_3 rfl) rfl ?_
     refine Va (rd_max3 rfl rfl rfl) rfl ?_
     refine Va (Ye (vs := [(0, .int .i64 (min (min x8.Low x10.Low) 0)), (1, .int .i64 (max (max x8.High x10.High) 0))]) (ds := [.int .i64 (min (min x8.Low x10.Low) 0), .int .i64 (max (max x8.High x10.High) 0)]) tz_44 rfl rfl tp_44 ⟨rfl, rfl, rfl, rfl, trivial⟩ (Yh rfl) rfl) rfl ?_
     refine Vi (Vw (p := .agg [.int .i64 (min (min x8.Low x10.Low) 0), .int .i64 (max (max x8.High x10.High) 0)]) (e' := .agg [.int .i64 (min (min x8.Low x10.Low) 0), .int .i64 (max (max x8.High x10.High) 0)]) rfl (Vg rfl rfl) rfl rfl ts_44 rfl (Yg rfl) rfl (We rfl) rfl (Xn rfl rfl)) rfl ?_
     refine Ve ?_
     refine Yb ?_
     obtain rfl := Wd hF
     refine fnR ?_
     exact Vm rfl [(1, 0)] (by decide) ⟨Vt 0 1 rfl rfl, trivial⟩ ⟨⟨_, rfl, rfl, .same _ _ _ _ (Vn ⟨Vo ⟨.int _ _, .int _ _, trivial⟩, trivial⟩)⟩, trivial⟩
 ·rintro _ _ _ _ ⟨he, hw⟩
  refine ⟨_, _, _, hw, ?_⟩
  exact Zc he [.agg [.int .i64 r.Low, .int .i64 r.High]] ⟨Xa rfl (Vg rfl rfl) rfl ta_44 ts_44 rfl rfl rfl, trivial⟩ ((Vo ⟨.int _ _, .int _ _, trivial⟩)) ⟨rfl, rfl⟩

end Go.Proofs.Ytaedmgkcmbhicaa
