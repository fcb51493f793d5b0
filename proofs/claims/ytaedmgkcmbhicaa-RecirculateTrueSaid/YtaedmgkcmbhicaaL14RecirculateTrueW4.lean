/- Printed by wip/lift/lift.py: the walks that show that the program computes them. -/
import Derived.Test.YtaedmgkcmbhicaaL14RecirculateTrueW3
namespace Go.Proofs.Ytaedmgkcmbhicaa
open Go Go.Aml Go.L
attribute [local irreducible] VRd VEf VOp VOps VWp DOps
set_option linter.unusedVariables false
open Go.Aml renaming vops_rd → Va, rd_fieldAddr → Vb, vwp_region → Vc, vops_skip → Vd, vops_nil → Ve, vwp_seq → Vf, getO_N → Vg, rn_low → Vh, vops_efE → Vi, rd_load1 → Vj, rd_mvI → Vk, ltObj_es → Vl, weak_pick → Vm, lt_agg → Vn, lenS → Vo, weak_sub → Vp, ltObj_map → Vq, vwp_monoW → Vr, rn_ptr → Vs, cv_same → Vt, all1 → Vu, vef_store → Vv, dops_rdW → Vw, rd_mvB → Vx, nn_same → Vy, onlyE → Vz, vwp_block → Xa, rd_mvP → Xb, vef_callS → Xc, vwp_cond → Xd, rd_loadN → Xe, vwp_skip → Xf, setO_N → Xg, vef_allocN → Xh, len_setL → Xi, sets_nil → Xj, vcalls_of_body → Xk, rd_to → Xl, rd_pickT → Xm, rd_pickF → Xn, rd_asI → Xo, rd_loadV1 → Xp, len_app → Xq, vef_callP → Xr, VRd → Xs, Weak → Xt, rn_sl → Xu, dops_ef → Xv, rd_ixV → Xw, dr1 → Xx, rd_build → Xy, vt1 → Xz, vwp_ret → Ya, bnd → Yb, nt_ne → Yc, nt_all2 → Yd, getI_some → Ye, Lift → Yf, vwp_weak → Yg, lt_map → Yh, ltObjN → Yi, rd_nilPtr → Yj, dops_nil → Yk, rd_lenV → Yl, vef_litF → Ym, sets_B → Yn, weak_freezeN → Yo, vwp_loopC → Yp, all0 → Yq, rd_mvV → Yr, bifT → Ys, bifF → Yt, vwp_exit → Yu, rd_add → Yv, rd_mvL → Yw, rd_fieldVaddr → Yx, bodyQ_pure → Yy, getO_B → Yz, dops_skip → Za, get_B → Zb, rd_lss → Zc, full_take → Zd, lp_bindE → Ze, VCalls → Zf, nt_all → Zg, vwp_drawn → Zh, rd_loadVN → Zi, rd_asB → Zj, rd_ldL1 → Zk, rd_ixS → Zl, rd_sub → Zm, dopx_rd → Zn, vwp_drawn0 → Zo, rx1 → Zp, vef_apL → Zq, vef_boxN → Zr, rd_eql → Zs
open List renaming map → Zt
open Go.Aml.PV renaming int → Zu
open Go.Aml.PV renaming bool → Zv
open Option.some renaming inj → Zw
open Nat renaming le_of_ble_eq_true → Zx
open Nat renaming succ_pos → Zy
open Bool renaming eq_false_or_eq_true → Zz
open List renaming length_map → Wa
set_option maxHeartbeats 4000000

theorem F_law14_awake_ok  {r : Bool} (hF : F_law14_awake = some r) (low : List AObj) :
    Zf Try.prog 14 [] low fun x low' => x = .bool r ∧ low' = low := by
 refine Xk (nt := 62) (rs := [.tmp 0]) Try.func14 rfl rfl (Zx rfl) rfl ?_
 refine Vr (Q' := FnE (fun E' lw lc => Xt E' lw lc [(0, .bool r)] low [])) ?_ ?_
 ·unfold F_law14_awake at hF
  refine Vf ?_
  refine Vc ?_
  refine Va (Zj rfl) rfl ?_
  refine Ve ?_
  refine Vf ?_
  refine Vc ?_
  refine Va (Xy (vs := [(0, .int .i64 1), (1, .int .i64 1)]) (ds := [.int .i64 1, .int .i64 1]) tz_44 rfl rfl tp_44 ⟨rfl, rfl, rfl, rfl, trivial⟩ (Yd rfl) rfl) rfl ?_
  refine Va (Xy (vs := [(0, .int .i64 0), (1, .int .i64 1), (2, .int .i64 1), (3, .int .i64 1), (6, .agg [.int .i64 1, .int .i64 1])]) (ds := [.int .i64 0, .int .i64 1, .int .i64 1, .int .i64 1, .bool false, .bool false, .int .i64 1, .int .i64 1, .int .i64 0, .int .i64 0]) tz_46 rfl rfl tp_46 ⟨rfl, rfl, rfl, rfl, rfl, rfl, rfl, rfl, rfl, rfl, trivial⟩ (Yd rfl) rfl) rfl ?_
  refine Vi (Xh rfl rfl tz_46 rfl rfl (Zy _) rfl) rfl ?_
  refine Vi (Vv (p := .agg [.int .i64 0, .int .i64 1, .int .i64 1, .int .i64 1, .bool false, .bool false, .int .i64 1, .int .i64 1, .int .i64 0, .int .i64 0]) (e' := .agg [.int .i64 0, .int .i64 1, .int .i64 1, .int .i64 1, .bool false, .bool false, .int .i64 1, .int .i64 1, .int .i64 0, .int .i64 0]) rfl (Vg rfl rfl) rfl rfl ts_46 rfl (Yc rfl) rfl (Zx rfl) rfl (Xg rfl rfl)) rfl ?_
  refine Ve ?_
  refine Vf ?_
  refine Vc ?_
  refine Va (Xy (vs := []) (ds := [.int .i64 0, .bool false]) tz_48 rfl rfl tp_48 trivial (Yd rfl) rfl) rfl ?_
  refine Va (Xy (vs := []) (ds := [.int .i64 0, .bool false]) tz_48 rfl rfl tp_48 trivial (Yd rfl) rfl) rfl ?_
  refine Vi (Ym (es := Zt T_Place.enc [(T_Place.mk 0 false), (T_Place.mk 0 false)]) ⟨rfl, rfl, rfl, rfl, trivial⟩ rfl rfl (Zg rfl) te_24 ts_48 tz_48 rfl rfl (Zy _) (by decide) (Yh T_Place.enc_lt)) rfl ?_
  refine Va (Xe (ds := [.int .i64 0, .int .i64 1, .int .i64 1, .int .i64 1, .bool false, .bool false, .int .i64 1, .int .i64 1, .int .i64 0, .int .i64 0]) rfl (Vg rfl rfl) rfl ta_46 ts_46 rfl rfl rfl) rfl ?_
  refine Va (Xe (ds := [.int .i64 0, .int .i64 1, .int .i64 1, .int .i64 1, .bool false, .bool false, .int .i64 1, .int .i64 1, .int .i64 0, .int .i64 0]) rfl (Vg rfl rfl) rfl ta_46 ts_46 rfl rfl rfl) rfl ?_
  refine Vi (Ym (es := Zt T_Road.enc [(T_Road.mk 0 1 1 1 false false (T_Span.mk 1 1) (T_Span.mk 0 0)), (T_Road.mk 0 1 1 1 false false (T_Span.mk 1 1) (T_Span.mk 0 0))]) ⟨rfl, rfl, rfl, rfl, trivial⟩ rfl rfl (Zg rfl) te_25 ts_46 tz_46 rfl rfl (Zy _) (by decide) (Yh T_Road.enc_lt)) rfl ?_
  refine Va (Xy (vs := [(0, .vs 2 (Zt T_Place.enc [(T_Place.mk 0 false), (T_Place.mk 0 false)])), (1, .vs 10 (Zt T_Road.enc [(T_Road.mk 0 1 1 1 false false (T_Span.mk 1 1) (T_Span.mk 0 0)), (T_Road.mk 0 1 1 1 false false (T_Span.mk 1 1) (T_Span.mk 0 0))]))]) (ds := [.vs 2 (Zt T_Place.enc [(T_Place.mk 0 false), (T_Place.mk 0 false)]), .vs 10 (Zt T_Road.enc [(T_Road.mk 0 1 1 1 false false (T_Span.mk 1 1) (T_Span.mk 0 0)), (T_Road.mk 0 1 1 1 false false (T_Span.mk 1 1) (T_Span.mk 0 0))])]) tz_27 rfl rfl tp_27 ⟨rfl, rfl, rfl, rfl, trivial⟩ (Yd rfl) rfl) rfl ?_
  refine Vi (Xh rfl rfl tz_27 rfl rfl (Zy _) rfl) rfl ?_
  refine Vi (Vv (p := .agg [.vs 2 (Zt T_Place.enc [(T_Place.mk 0 false), (T_Place.mk 0 false)]), .vs 10 (Zt T_Road.enc [(T_Road.mk 0 1 1 1 false false (T_Span.mk 1 1) (T_Span.mk 0 0)), (T_Road.mk 0 1 1 1 false false (T_Span.mk 1 1) (T_Span.mk 0 0))])]) (e' := .agg [.vs 2 (Zt T_Place.enc [(T_Place.mk 0 false), (T_Place.mk 0 false)]), .vs 10 (Zt T_Road.enc [(T_Road.mk 0 1 1 1 false false (T_Span.mk 1 1) (T_Span.mk 0 0)), (T_Road.mk 0 1 1 1 false false (T_Span.mk 1 1) (T_Span.mk 0 0))])]) rfl (Vg rfl rfl) rfl rfl ts_27 rfl (Yc rfl) rfl (Zx rfl) rfl (Xg rfl rfl)) rfl ?_
  refine Ve ?_
  refine Vf ?_
  refine Vc ?_
  refine Va (Xy (vs := [(0, .int .i64 1), (1, .int .i64 5)]) (ds := [.int .i64 1, .int .i64 5]) tz_44 rfl rfl tp_44 ⟨rfl, rfl, rfl, rfl, trivial⟩ (Yd rfl) rfl) rfl ?_
  refine Va (Xy (vs := [(0, .int .i64 (-5)), (1, .int .i64 (-1))]) (ds := [.int .i64 (-5), .int .i64 (-1)]) tz_44 rfl rfl tp_44 ⟨rfl, rfl, rfl, rfl, trivial⟩ (Yd rfl) rfl) rfl ?_
  refine Vi (Ym (es := Zt T_Span.enc [(T_Span.mk 1 5), (T_Span.mk (-5) (-1))]) ⟨rfl, rfl, rfl, rfl, trivial⟩ rfl rfl (Zg rfl) te_23 ts_44 tz_44 rfl rfl (Zy _) (by decide) (Yh T_Span.enc_lt)) rfl ?_
  refine Va (rd_asV rfl) rfl ?_
  refine Ve ?_
  refine Vf ?_
  refine Vc ?_
  obtain ⟨x1, h2, hF⟩ := Yb hF
  refine Va (Xe (ds := [.vs 2 (Zt T_Place.enc [(T_Place.mk 0 false), (T_Place.mk 0 false)]), .vs 10 (Zt T_Road.enc [(T_Road.mk 0 1 1 1 false false (T_Span.mk 1 1) (T_Span.mk 0 0)), (T_Road.mk 0 1 1 1 false false (T_Span.mk 1 1) (T_Span.mk 0 0))])]) rfl (Vg rfl rfl) rfl ta_27 ts_27 rfl rfl rfl) rfl ?_
  refine Va (Yr rfl) rfl ?_
  refine Vi (Xr rfl Try.call9 (F_recirculate_Ways_ok h2 _)) rfl ?_
  refine Va (rd_asV rfl) rfl ?_
  refine Ve ?_
  refine Vf ?_
  refine Vc ?_
  rcases Zz (decide (((x1).length : Int) = 2)) with c3 | c3
  ·have hF := Ys c3 hF
   obtain ⟨x4, h5, hF⟩ := Yb hF
   rcases Zz ((x4.a0 == 1) && ((x4.a1 == 0) && true)) with c6 | c6
   ·have hF := Ys c6 hF
    obtain ⟨x7, h8, hF⟩ := Yb hF
    obtain ⟨x9, h10, hF⟩ := Yb hF
    rcases Zz x9 with c11 | c11
    ·have hF := Ys c11 hF
     obtain ⟨x12, h13, hF⟩ := Yb hF
     rcases Zz (decide (((x12).length : Int) = 2)) with c14 | c14
     ·have hF := Ys c14 hF
      obtain ⟨x15, h16, hF⟩ := Yb hF
      rcases Zz (decide (((x15).length : Int) = 0)) with c17 | c17
      ·have hF := Ys c17 hF
       obtain ⟨x18, h19, hF⟩ := Yb hF
       obtain ⟨x20, h21, hF⟩ := Yb hF
       refine Va (Yr rfl) rfl ?_
       refine Va (Xl (Yl rfl rfl te_36) (congrArg (fun n : Nat => Zu .i64 (n : Int)) (Wa _))) rfl ?_
       refine Va (Zs rfl rfl) rfl ?_
       refine Va (Vx rfl) rfl ?_
       refine Xz rfl rfl c3 ?_
       refine Va (Yr rfl) rfl ?_
       refine Xz rfl rfl c3 ?_
       refine Va (Xl (Xw rfl rfl h5 te_36 ts_40) (v' := .vptr [.int .i64 x4.a0, .int .i64 x4.a1] 0) rfl) rfl ?_
       refine Xz rfl rfl c3 ?_
       refine Va (Zi (ds := [.int .i64 x4.a0, .int .i64 x4.a1]) rfl ta_40 ts_40 rfl rfl) rfl ?_
       refine Xz rfl rfl c3 ?_
       refine Va (rd_buildA (vs := [(0, .int .i64 1), (1, .int .i64 0)]) (ds := [.int .i64 1, .int .i64 0]) tz_40 rfl rfl tr_40 ts_3 ⟨rfl, rfl, rfl, rfl, trivial⟩ (Yd rfl) rfl) rfl ?_
       refine Xz rfl rfl c3 ?_
       refine Va (rd_eqlV (tab := eqTab) eqTab_ok rfl rfl eqg_40 rfl) rfl ?_
       refine Va (Xm (congrArg Zv c3) rfl) rfl ?_
       refine Va (Vx rfl) rfl ?_
       refine Xz rfl rfl c6 ?_
       refine Va (Xe (ds := [.vs 2 (Zt T_Place.enc [(T_Place.mk 0 false), (T_Place.mk 0 false)]), .vs 10 (Zt T_Road.enc [(T_Road.mk 0 1 1 1 false false (T_Span.mk 1 1) (T_Span.mk 0 0)), (T_Road.mk 0 1 1 1 false false (T_Span.mk 1 1) (T_Span.mk 0 0))])]) rfl (Vg rfl rfl) rfl ta_27 ts_27 rfl rfl rfl) rfl ?_
       refine Xz rfl rfl c6 ?_
       refine Va (Yr rfl) rfl ?_
       refine Xz rfl rfl c6 ?_
       refine Vi (Xr rfl Try.call12 (F_recirculate_Circles_ok h8 _)) rfl ?_
       refine Xz rfl rfl c6 ?_
       refine Vi (Ym (es := Zt (Zu .i64) [0, 1]) ⟨rfl, rfl, rfl, rfl, trivial⟩ rfl rfl (Zg rfl) te_32 ts_3 tz_3 rfl rfl (Zy _) (by decide) (Yh (fun _ => .int _ _))) rfl ?_
       refine Xz rfl rfl c6 ?_
       refine Vi (Xr rfl Try.call11 (F_ref01_Ints_ok h10 _)) rfl ?_
       refine Va (Xm (congrArg Zv c6) rfl) rfl ?_
       refine Va (Vx rfl) rfl ?_
       refine Xz rfl rfl c11 ?_
       refine Va (Xe (ds := [.vs 2 (Zt T_Place.enc [(T_Place.mk 0 false), (T_Place.mk 0 false)]), .vs 10 (Zt T_Road.enc [(T_Road.mk 0 1 1 1 false false (T_Span.mk 1 1) (T_Span.mk 0 0)), (T_Road.mk 0 1 1 1 false false (T_Span.mk 1 1) (T_Span.mk 0 0))])]) rfl (Vg rfl rfl) rfl ta_27 ts_27 rfl rfl rfl) rfl ?_
       refine Xz rfl rfl c11 ?_
       refine Va (Xy (vs := [(0, .int .i64 (-1)), (1, .int .i64 5)]) (ds := [.int .i64 (-1), .int .i64 5]) tz_44 rfl rfl tp_44 ⟨rfl, rfl, rfl, rfl, trivial⟩ (Yd rfl) rfl) rfl ?_
       refine Xz rfl rfl c11 ?_
       refine Va (Xy (vs := [(0, .int .i64 1), (1, .int .i64 5)]) (ds := [.int .i64 1, .int .i64 5]) tz_44 rfl rfl tp_44 ⟨rfl, rfl, rfl, rfl, trivial⟩ (Yd rfl) rfl) rfl ?_
       refine Xz rfl rfl c11 ?_
       refine Vi (Ym (es := Zt T_Span.enc [(T_Span.mk (-1) 5), (T_Span.mk 1 5)]) ⟨rfl, rfl, rfl, rfl, trivial⟩ rfl rfl (Zg rfl) te_23 ts_44 tz_44 rfl rfl (Zy _) (by decide) (Yh T_Span.enc_lt)) rfl ?_
       refine Xz rfl rfl c11 ?_
       refine Vi (Xr rfl Try.call12 (F_recirculate_Circles_ok h13 _)) rfl ?_
       refine Xz rfl rfl c11 ?_
       refine Va (Xl (Yl rfl rfl te_32) (congrArg (fun n : Nat => Zu .i64 (n : Int)) (Wa _))) rfl ?_
       refine Xz rfl rfl c11 ?_
       refine Va (Zs rfl rfl) rfl ?_
       refine Va (Xm (congrArg Zv c11) rfl) rfl ?_
       refine Va (Vx rfl) rfl ?_
       refine Xz rfl rfl c14 ?_
       refine Va (Xe (ds := [.vs 2 (Zt T_Place.enc [(T_Place.mk 0 false), (T_Place.mk 0 false)]), .vs 10 (Zt T_Road.enc [(T_Road.mk 0 1 1 1 false false (T_Span.mk 1 1) (T_Span.mk 0 0)), (T_Road.mk 0 1 1 1 false false (T_Span.mk 1 1) (T_Span.mk 0 0))])]) rfl (Vg rfl rfl) rfl ta_27 ts_27 rfl rfl rfl) rfl ?_
       refine Xz rfl rfl c14 ?_
       refine Va (Xy (vs := [(0, .int .i64 1), (1, .int .i64 5)]) (ds := [.int .i64 1, .int .i64 5]) tz_44 rfl rfl tp_44 ⟨rfl, rfl, rfl, rfl, trivial⟩ (Yd rfl) rfl) rfl ?_
       refine Xz rfl rfl c14 ?_
       refine Va (Xy (vs := [(0, .int .i64 1), (1, .int .i64 5)]) (ds := [.int .i64 1, .int .i64 5]) tz_44 rfl rfl tp_44 ⟨rfl, rfl, rfl, rfl, trivial⟩ (Yd rfl) rfl) rfl ?_
       refine Xz rfl rfl c14 ?_
       refine Vi (Ym (es := Zt T_Span.enc [(T_Span.mk 1 5), (T_Span.mk 1 5)]) ⟨rfl, rfl, rfl, rfl, trivial⟩ rfl rfl (Zg rfl) te_23 ts_44 tz_44 rfl rfl (Zy _) (by decide) (Yh T_Span.enc_lt)) rfl ?_
       refine Xz rfl rfl c14 ?_
       refine Vi (Xr rfl Try.call12 (F_recirculate_Circles_ok h16 _)) rfl ?_
       refine Xz rfl rfl c14 ?_
       refine Va (Xl (Yl rfl rfl te_32) (congrArg (fun n : Nat => Zu .i64 (n : Int)) (Wa _))) rfl ?_
       refine Xz rfl rfl c14 ?_
       refine Va (Zs rfl rfl) rfl ?_
       refine Va (Xm (congrArg Zv c14) rfl) rfl ?_
       refine Va (Vx rfl) rfl ?_
       refine Xz rfl rfl c17 ?_
       refine Va (Xe (ds := [.vs 2 (Zt T_Place.enc [(T_Place.mk 0 false), (T_Place.mk 0 false)]), .vs 10 (Zt T_Road.enc [(T_Road.mk 0 1 1 1 false false (T_Span.mk 1 1) (T_Span.mk 0 0)), (T_Road.mk 0 1 1 1 false false (T_Span.mk 1 1) (T_Span.mk 0 0))])]) rfl (Vg rfl rfl) rfl ta_27 ts_27 rfl rfl rfl) rfl ?_
       refine Xz rfl rfl c17 ?_
       refine Va (Yr rfl) rfl ?_
       refine Xz rfl rfl c17 ?_
       refine Vi (Xr rfl Try.call19 (F_recirculate_Mixed_ok h19 _)) rfl ?_
       refine Xz rfl rfl c17 ?_
       refine Vi (Ym (es := Zt (Zu .i64) [0, 1]) ⟨rfl, rfl, rfl, rfl, trivial⟩ rfl rfl (Zg rfl) te_32 ts_3 tz_3 rfl rfl (Zy _) (by decide) (Yh (fun _ => .int _ _))) rfl ?_
       refine Xz rfl rfl c17 ?_
       refine Vi (Xr rfl Try.call11 (F_ref01_Ints_ok h21 _)) rfl ?_
       refine Va (Xm (congrArg Zv c17) rfl) rfl ?_
       refine Va (Zj rfl) rfl ?_
       refine Ve ?_
       refine Ya ?_
       obtain rfl := Zw hF
       refine fnR ?_
       exact Vm rfl [] (by decide) ⟨Vh rfl (.bool _), trivial⟩ trivial
      ·have hF := Yt c17 hF
       refine Va (Yr rfl) rfl ?_
       refine Va (Xl (Yl rfl rfl te_36) (congrArg (fun n : Nat => Zu .i64 (n : Int)) (Wa _))) rfl ?_
       refine Va (Zs rfl rfl) rfl ?_
       refine Va (Vx rfl) rfl ?_
       refine Xz rfl rfl c3 ?_
       refine Va (Yr rfl) rfl ?_
       refine Xz rfl rfl c3 ?_
       refine Va (Xl (Xw rfl rfl h5 te_36 ts_40) (v' := .vptr [.int .i64 x4.a0, .int .i64 x4.a1] 0) rfl) rfl ?_
       refine Xz rfl rfl c3 ?_
       refine Va (Zi (ds := [.int .i64 x4.a0, .int .i64 x4.a1]) rfl ta_40 ts_40 rfl rfl) rfl ?_
       refine Xz rfl rfl c3 ?_
       refine Va (rd_buildA (vs := [(0, .int .i64 1), (1, .int .i64 0)]) (ds := [.int .i64 1, .int .i64 0]) tz_40 rfl rfl tr_40 ts_3 ⟨rfl, rfl, rfl, rfl, trivial⟩ (Yd rfl) rfl) rfl ?_
       refine Xz rfl rfl c3 ?_
       refine Va (rd_eqlV (tab := eqTab) eqTab_ok rfl rfl eqg_40 rfl) rfl ?_
       refine Va (Xm (congrArg Zv c3) rfl) rfl ?_
       refine Va (Vx rfl) rfl ?_
       refine Xz rfl rfl c6 ?_
       refine Va (Xe (ds := [.vs 2 (Zt T_Place.enc [(T_Place.mk 0 false), (T_Place.mk 0 false)]), .vs 10 (Zt T_Road.enc [(T_Road.mk 0 1 1 1 false false (T_Span.mk 1 1) (T_Span.mk 0 0)), (T_Road.mk 0 1 1 1 false false (T_Span.mk 1 1) (T_Span.mk 0 0))])]) rfl (Vg rfl rfl) rfl ta_27 ts_27 rfl rfl rfl) rfl ?_
       refine Xz rfl rfl c6 ?_
       refine Va (Yr rfl) rfl ?_
       refine Xz rfl rfl c6 ?_
       refine Vi (Xr rfl Try.call12 (F_recirculate_Circles_ok h8 _)) rfl ?_
       refine Xz rfl rfl c6 ?_
       refine Vi (Ym (es := Zt (Zu .i64) [0, 1]) ⟨rfl, rfl, rfl, rfl, trivial⟩ rfl rfl (Zg rfl) te_32 ts_3 tz_3 rfl rfl (Zy _) (by decide) (Yh (fun _ => .int _ _))) rfl ?_
       refine Xz rfl rfl c6 ?_
       refine Vi (Xr rfl Try.call11 (F_ref01_Ints_ok h10 _)) rfl ?_
       refine Va (Xm (congrArg Zv c6) rfl) rfl ?_
       refine Va (Vx rfl) rfl ?_
       refine Xz rfl rfl c11 ?_
       refine Va (Xe (ds := [.vs 2 (Zt T_Place.enc [(T_Place.mk 0 false), (T_Place.mk 0 false)]), .vs 10 (Zt T_Road.enc [(T_Road.mk 0 1 1 1 false false (T_Span.mk 1 1) (T_Span.mk 0 0)), (T_Road.mk 0 1 1 1 false false (T_Span.mk 1 1) (T_Span.mk 0 0))])]) rfl (Vg rfl rfl) rfl ta_27 ts_27 rfl rfl rfl) rfl ?_
       refine Xz rfl rfl c11 ?_
       refine Va (Xy (vs := [(0, .int .i64 (-1)), (1, .int .i64 5)]) (ds := [.int .i64 (-1), .int .i64 5]) tz_44 rfl rfl tp_44 ⟨rfl, rfl, rfl, rfl, trivial⟩ (Yd rfl) rfl) rfl ?_
       refine Xz rfl rfl c11 ?_
       refine Va (Xy (vs := [(0, .int .i64 1), (1, .int .i64 5)]) (ds := [.int .i64 1, .int .i64 5]) tz_44 rfl rfl tp_44 ⟨rfl, rfl, rfl, rfl, trivial⟩ (Yd rfl) rfl) rfl ?_
       refine Xz rfl rfl c11 ?_
       refine Vi (Ym (es := Zt T_Span.enc [(T_Span.mk (-1) 5), (T_Span.mk 1 5)]) ⟨rfl, rfl, rfl, rfl, trivial⟩ rfl rfl (Zg rfl) te_23 ts_44 tz_44 rfl rfl (Zy _) (by decide) (Yh T_Span.enc_lt)) rfl ?_
       refine Xz rfl rfl c11 ?_
       refine Vi (Xr rfl Try.call12 (F_recirculate_Circles_ok h13 _)) rfl ?_
       refine Xz rfl rfl c11 ?_
       refine Va (Xl (Yl rfl rfl te_32) (congrArg (fun n : Nat => Zu .i64 (n : Int)) (Wa _))) rfl ?_
       refine Xz rfl rfl c11 ?_
       refine Va (Zs rfl rfl) rfl ?_
       refine Va (Xm (congrArg Zv c11) rfl) rfl ?_
       refine Va (Vx rfl) rfl ?_
       refine Xz rfl rfl c14 ?_
       refine Va (Xe (ds := [.vs 2 (Zt T_Place.enc [(T_Place.mk 0 false), (T_Place.mk 0 false)]), .vs 10 (Zt T_Road.enc [(T_Road.mk 0 1 1 1 false false (T_Span.mk 1 1) (T_Span.mk 0 0)), (T_Road.mk 0 1 1 1 false false (T_Span.mk 1 1) (T_Span.mk 0 0))])]) rfl (Vg rfl rfl) rfl ta_27 ts_27 rfl rfl rfl) rfl ?_
       refine Xz rfl rfl c14 ?_
       refine Va (Xy (vs := [(0, .int .i64 1), (1, .int .i64 5)]) (ds := [.int .i64 1, .int .i64 5]) tz_44 rfl rfl tp_44 ⟨rfl, rfl, rfl, rfl, trivial⟩ (Yd rfl) rfl) rfl ?_
       refine Xz rfl rfl c14 ?_
       refine Va (Xy (vs := [(0, .int .i64 1), (1, .int .i64 5)]) (ds := [.int .i64 1, .int .i64 5]) tz_44 rfl rfl tp_44 ⟨rfl, rfl, rfl, rfl, trivial⟩ (Yd rfl) rfl) rfl ?_
       refine Xz rfl rfl c14 ?_
       refine Vi (Ym (es := Zt T_Span.enc [(T_Span.mk 1 5), (T_Span.mk 1 5)]) ⟨rfl, rfl, rfl, rfl, trivial⟩ rfl rfl (Zg rfl) te_23 ts_44 tz_44 rfl rfl (Zy _) (by decide) (Yh T_Span.enc_lt)) rfl ?_
       refine Xz rfl rfl c14 ?_
       refine Vi (Xr rfl Try.call12 (F_recirculate_Circles_ok h16 _)) rfl ?_
       refine Xz rfl rfl c14 ?_
       refine Va (Xl (Yl rfl rfl te_32) (congrArg (fun n : Nat => Zu .i64 (n : Int)) (Wa _))) rfl ?_
       refine Xz rfl rfl c14 ?_
       refine Va (Zs rfl rfl) rfl ?_
       refine Va (Xm (congrArg Zv c14) rfl) rfl ?_
       refine Va (Vx rfl) rfl ?_
       refine Vd rfl rfl (neF c17) rfl ?_
       refine Vd rfl rfl (neF c17) rfl ?_
       refine Vd rfl rfl (neF c17) rfl ?_
       refine Vd rfl rfl (neF c17) rfl ?_
       refine Vd rfl rfl (neF c17) rfl ?_
       refine Va (Xn (congrArg Zv c17) rfl) rfl ?_
       refine Va (Zj rfl) rfl ?_
       refine Ve ?_
       refine Ya ?_
       obtain rfl := Zw hF
       refine fnR ?_
       exact Vm rfl [] (by decide) ⟨Vh rfl (.bool _), trivial⟩ trivial
     ·have hF := Yt c14 hF
      refine Va (Yr rfl) rfl ?_
      refine Va (Xl (Yl rfl rfl te_36) (congrArg (fun n : Nat => Zu .i64 (n : Int)) (Wa _))) rfl ?_
      refine Va (Zs rfl rfl) rfl ?_
      refine Va (Vx rfl) rfl ?_
      refine Xz rfl rfl c3 ?_
      refine Va (Yr rfl) rfl ?_
      refine Xz rfl rfl c3 ?_
      refine Va (Xl (Xw rfl rfl h5 te_36 ts_40) (v' := .vptr [.int .i64 x4.a0, .int .i64 x4.a1] 0) rfl) rfl ?_
      refine Xz rfl rfl c3 ?_
      refine Va (Zi (ds := [.int .i64 x4.a0, .int .i64 x4.a1]) rfl ta_40 ts_40 rfl rfl) rfl ?_
      refine Xz rfl rfl c3 ?_
      refine Va (rd_buildA (vs := [(0, .int .i64 1), (1, .int .i64 0)]) (ds := [.int .i64 1, .int .i64 0]) tz_40 rfl rfl tr_40 ts_3 ⟨rfl, rfl, rfl, rfl, trivial⟩ (Yd rfl) rfl) rfl ?_
      refine Xz rfl rfl c3 ?_
      refine Va (rd_eqlV (tab := eqTab) eqTab_ok rfl rfl eqg_40 rfl) rfl ?_
      refine Va (Xm (congrArg Zv c3) rfl) rfl ?_
      refine Va (Vx rfl) rfl ?_
      refine Xz rfl rfl c6 ?_
      refine Va (Xe (ds := [.vs 2 (Zt T_Place.enc [(T_Place.mk 0 false), (T_Place.mk 0 false)]), .vs 10 (Zt T_Road.enc [(T_Road.mk 0 1 1 1 false false (T_Span.mk 1 1) (T_Span.mk 0 0)), (T_Road.mk 0 1 1 1 false false (T_Span.mk 1 1) (T_Span.mk 0 0))])]) rfl (Vg rfl rfl) rfl ta_27 ts_27 rfl rfl rfl) rfl ?_
      refine Xz rfl rfl c6 ?_
      refine Va (Yr rfl) rfl ?_
      refine Xz rfl rfl c6 ?_
      refine Vi (Xr rfl Try.call12 (F_recirculate_Circles_ok h8 _)) rfl ?_
      refine Xz rfl rfl c6 ?_
      refine Vi (Ym (es := Zt (Zu .i64) [0, 1]) ⟨rfl, rfl, rfl, rfl, trivial⟩ rfl rfl (Zg rfl) te_32 ts_3 tz_3 rfl rfl (Zy _) (by decide) (Yh (fun _ => .int _ _))) rfl ?_
      refine Xz rfl rfl c6 ?_
      refine Vi (Xr rfl Try.call11 (F_ref01_Ints_ok h10 _)) rfl ?_
      refine Va (Xm (congrArg Zv c6) rfl) rfl ?_
      refine Va (Vx rfl) rfl ?_
      refine Xz rfl rfl c11 ?_
      refine Va (Xe (ds := [.vs 2 (Zt T_Place.enc [(T_Place.mk 0 false), (T_Place.mk 0 false)]), .vs 10 (Zt T_Road.enc [(T_Road.mk 0 1 1 1 false false (T_Span.mk 1 1) (T_Span.mk 0 0)), (T_Road.mk 0 1 1 1 false false (T_Span.mk 1 1) (T_Span.mk 0 0))])]) rfl (Vg rfl rfl) rfl ta_27 ts_27 rfl rfl rfl) rfl ?_
      refine Xz rfl rfl c11 ?_
      refine Va (Xy (vs := [(0, .int .i64 (-1)), (1, .int .i64 5)]) (ds := [.int .i64 (-1), .int .i64 5]) tz_44 rfl rfl tp_44 ⟨rfl, rfl, rfl, rfl, trivial⟩ (Yd rfl) rfl) rfl ?_
      refine Xz rfl rfl c11 ?_
      refine Va (Xy (vs := [(0, .int .i64 1), (1, .int .i64 5)]) (ds := [.int .i64 1, .int .i64 5]) tz_44 rfl rfl tp_44 ⟨rfl, rfl, rfl, rfl, trivial⟩ (Yd rfl) rfl) rfl ?_
      refine Xz rfl rfl c11 ?_
      refine Vi (Ym (es := Zt T_Span.enc [(T_Span.mk (-1) 5), (T_Span.mk 1 5)]) ⟨rfl, rfl, rfl, rfl, trivial⟩ rfl rfl (Zg rfl) te_23 ts_44 tz_44 rfl rfl (Zy _) (by decide) (Yh T_Span.enc_lt)) rfl ?_
      refine Xz rfl rfl c11 ?_
      refine Vi (Xr rfl Try.call12 (F_recirculate_Circles_ok h13 _)) rfl ?_
      refine Xz rfl rfl c11 ?_
      refine Va (Xl (Yl rfl rfl te_32) (congrArg (fun n : Nat => Zu .i64 (n : Int)) (Wa _))) rfl ?_
      refine Xz rfl rfl c11 ?_
      refine Va (Zs rfl rfl) rfl ?_
      refine Va (Xm (congrArg Zv c11) rfl) rfl ?_
      refine Va (Vx rfl) rfl ?_
      refine Vd rfl rfl (neF c14) rfl ?_
      refine Vd rfl rfl (neF c14) rfl ?_
      refine Vd rfl rfl (neF c14) rfl ?_
      refine Vd rfl rfl (neF c14) rfl ?_
      refine Vd rfl rfl (neF c14) rfl ?_
      refine Vd rfl rfl (neF c14) rfl ?_
      refine Vd rfl rfl (neF c14) rfl ?_
      refine Va (Xn (congrArg Zv c14) rfl) rfl ?_
      refine Va (Vx rfl) rfl ?_
      refine Vd rfl rfl (by decide) rfl ?_
      refine Vd rfl rfl (by decide) rfl ?_
      refine Vd rfl rfl (by decide) rfl ?_
      refine Vd rfl rfl (by decide) rfl ?_
      refine Vd rfl rfl (by decide) rfl ?_
      refine Va (Xn rfl rfl) rfl ?_
      refine Va (Zj rfl) rfl ?_
      refine Ve ?_
      refine Ya ?_
      obtain rfl := Zw hF
      refine fnR ?_
      exact Vm rfl [] (by decide) ⟨Vh rfl (.bool _), trivial⟩ trivial
    ·have hF := Yt c11 hF
     refine Va (Yr rfl) rfl ?_
     refine Va (Xl (Yl rfl rfl te_36) (congrArg (fun n : Nat => Zu .i64 (n : Int)) (Wa _))) rfl ?_
     refine Va (Zs rfl rfl) rfl ?_
     refine Va (Vx rfl) rfl ?_
     refine Xz rfl rfl c3 ?_
     refine Va (Yr rfl) rfl ?_
     refine Xz rfl rfl c3 ?_
     refine Va (Xl (Xw rfl rfl h5 te_36 ts_40) (v' := .vptr [.int .i64 x4.a0, .int .i64 x4.a1] 0) rfl) rfl ?_
     refine Xz rfl rfl c3 ?_
     refine Va (Zi (ds := [.int .i64 x4.a0, .int .i64 x4.a1]) rfl ta_40 ts_40 rfl rfl) rfl ?_
     refine Xz rfl rfl c3 ?_
     refine Va (rd_buildA (vs := [(0, .int .i64 1), (1, .int .i64 0)]) (ds := [.int .i64 1, .int .i64 0]) tz_40 rfl rfl tr_40 ts_3 ⟨rfl, rfl, rfl, rfl, trivial⟩ (Yd rfl) rfl) rfl ?_
     refine Xz rfl rfl c3 ?_
     refine Va (rd_eqlV (tab := eqTab) eqTab_ok rfl rfl eqg_40 rfl) rfl ?_
     refine Va (Xm (congrArg Zv c3) rfl) rfl ?_
     refine Va (Vx rfl) rfl ?_
     refine Xz rfl rfl c6 ?_
     refine Va (Xe (ds := [.vs 2 (Zt T_Place.enc [(T_Place.mk 0 false), (T_Place.mk 0 false)]), .vs 10 (Zt T_Road.enc [(T_Road.mk 0 1 1 1 false false (T_Span.mk 1 1) (T_Span.mk 0 0)), (T_Road.mk 0 1 1 1 false false (T_Span.mk 1 1) (T_Span.mk 0 0))])]) rfl (Vg rfl rfl) rfl ta_27 ts_27 rfl rfl rfl) rfl ?_
     refine Xz rfl rfl c6 ?_
     refine Va (Yr rfl) rfl ?_
     refine Xz rfl rfl c6 ?_
     refine Vi (Xr rfl Try.call12 (F_recirculate_Circles_ok h8 _)) rfl ?_
     refine Xz rfl rfl c6 ?_
     refine Vi (Ym (es := Zt (Zu .i64) [0, 1]) ⟨rfl, rfl, rfl, rfl, trivial⟩ rfl rfl (Zg rfl) te_32 ts_3 tz_3 rfl rfl (Zy _) (by decide) (Yh (fun _ => .int _ _))) rfl ?_
     refine Xz rfl rfl c6 ?_
     refine Vi (Xr rfl Try.call11 (F_ref01_Ints_ok h10 _)) rfl ?_
     refine Va (Xm (congrArg Zv c6) rfl) rfl ?_
     refine Va (Vx rfl) rfl ?_
     refine Vd rfl rfl (neF c11) rfl ?_
     refine Vd rfl rfl (neF c11) rfl ?_
     refine Vd rfl rfl (neF c11) rfl ?_
     refine Vd rfl rfl (neF c11) rfl ?_
     refine Vd rfl rfl (neF c11) rfl ?_
     refine Vd rfl rfl (neF c11) rfl ?_
     refine Vd rfl rfl (neF c11) rfl ?_
     refine Va (Xn (congrArg Zv c11) rfl) rfl ?_
     refine Va (Vx rfl) rfl ?_
     refine Vd rfl rfl (by decide) rfl ?_
     refine Vd rfl rfl (by decide) rfl ?_
     refine Vd rfl rfl (by decide) rfl ?_
     refine Vd rfl rfl (by decide) rfl ?_
     refine Vd rfl rfl (by decide) rfl ?_
     refine Vd rfl rfl (by decide) rfl ?_
     refine Vd rfl rfl (by decide) rfl ?_
     refine Va (Xn rfl rfl) rfl ?_
     refine Va (Vx rfl) rfl ?_
     refine Vd rfl rfl (by decide) rfl ?_
     refine Vd rfl rfl (by decide) rfl ?_
     refine Vd rfl rfl (by decide) rfl ?_
     refine Vd rfl rfl (by decide) rfl ?_
     refine Vd rfl rfl (by decide) rfl ?_
     refine Va (Xn rfl rfl) rfl ?_
     refine Va (Zj rfl) rfl ?_
     refine Ve ?_
     refine Ya ?_
     obtain rfl := Zw hF
     refine fnR ?_
     exact Vm rfl [] (by decide) ⟨Vh rfl (.bool _), trivial⟩ trivial
   ·have hF := Yt c6 hF
    refine Va (Yr rfl) rfl ?_
    refine Va (Xl (Yl rfl rfl te_36) (congrArg (fun n : Nat => Zu .i64 (n : Int)) (Wa _))) rfl ?_
    refine Va (Zs rfl rfl) rfl ?_
    refine Va (Vx rfl) rfl ?_
    refine Xz rfl rfl c3 ?_
    refine Va (Yr rfl) rfl ?_
    refine Xz rfl rfl c3 ?_
    refine Va (Xl (Xw rfl rfl h5 te_36 ts_40) (v' := .vptr [.int .i64 x4.a0, .int .i64 x4.a1] 0) rfl) rfl ?_
    refine Xz rfl rfl c3 ?_
    refine Va (Zi (ds := [.int .i64 x4.a0, .int .i64 x4.a1]) rfl ta_40 ts_40 rfl rfl) rfl ?_
    refine Xz rfl rfl c3 ?_
    refine Va (rd_buildA (vs := [(0, .int .i64 1), (1, .int .i64 0)]) (ds := [.int .i64 1, .int .i64 0]) tz_40 rfl rfl tr_40 ts_3 ⟨rfl, rfl, rfl, rfl, trivial⟩ (Yd rfl) rfl) rfl ?_
    refine Xz rfl rfl c3 ?_
    refine Va (rd_eqlV (tab := eqTab) eqTab_ok rfl rfl eqg_40 rfl) rfl ?_
    refine Va (Xm (congrArg Zv c3) rfl) rfl ?_
    refine Va (Vx rfl) rfl ?_
    refine Vd rfl rfl (neF c6) rfl ?_
    refine Vd rfl rfl (neF c6) rfl ?_
    refine Vd rfl rfl (neF c6) rfl ?_
    refine Vd rfl rfl (neF c6) rfl ?_
    refine Vd rfl rfl (neF c6) rfl ?_
    refine Va (Xn (congrArg Zv c6) rfl) rfl ?_
    refine Va (Vx rfl) rfl ?_
    refine Vd rfl rfl (by decide) rfl ?_
    refine Vd rfl rfl (by decide) rfl ?_
    refine Vd rfl rfl (by decide) rfl ?_
    refine Vd rfl rfl (by decide) rfl ?_
    refine Vd rfl rfl (by decide) rfl ?_
    refine Vd rfl rfl (by decide) rfl ?_
    refine Vd rfl rfl (by decide) rfl ?_
    refine Va (Xn rfl rfl) rfl ?_
    refine Va (Vx rfl) rfl ?_
    refine Vd rfl rfl (by decide) rfl ?_
    refine Vd rfl rfl (by decide) rfl ?_
    refine Vd rfl rfl (by decide) rfl ?_
    refine Vd rfl rfl (by decide) rfl ?_
    refine Vd rfl rfl (by decide) rfl ?_
    refine Vd rfl rfl (by decide) rfl ?_
    refine Vd rfl rfl (by decide) rfl ?_
    refine Va (Xn rfl rfl) rfl ?_
    refine Va (Vx rfl) rfl ?_
    refine Vd rfl rfl (by decide) rfl ?_
    refine Vd rfl rfl (by decide) rfl ?_
    refine Vd rfl rfl (by decide) rfl ?_
    refine Vd rfl rfl (by decide) rfl ?_
    refine Vd rfl rfl (by decide) rfl ?_
    refine Va (Xn rfl rfl) rfl ?_
    refine Va (Zj rfl) rfl ?_
    refine Ve ?_
    refine Ya ?_
    obtain rfl := Zw hF
    refine fnR ?_
    exact Vm rfl [] (by decide) ⟨Vh rfl (.bool _), trivial⟩ trivial
  ·have hF := Yt c3 hF
   refine Va (Yr rfl) rfl ?_
   refine Va (Xl (Yl rfl rfl te_36) (congrArg (fun n : Nat => Zu .i64 (n : Int)) (Wa _))) rfl ?_
   refine Va (Zs rfl rfl) rfl ?_
   refine Va (Vx rfl) rfl ?_
   refine Vd rfl rfl (neF c3) rfl ?_
   refine Vd rfl rfl (neF c3) rfl ?_
   refine Vd rfl rfl (neF c3) rfl ?_
   refine Vd rfl rfl (neF c3) rfl ?_
   refine Vd rfl rfl (neF c3) rfl ?_
   refine Va (Xn (congrArg Zv c3) rfl) rfl ?_
   refine Va (Vx rfl) rfl ?_
   refine Vd rfl rfl (by decide) rfl ?_
   refine Vd rfl rfl (by decide) rfl ?_
   refine Vd rfl rfl (by decide) rfl ?_
   refine Vd rfl rfl (by decide) rfl ?_
   refine Vd rfl rfl (by decide) rfl ?_
   refine Va (Xn rfl rfl) rfl ?_
   refine Va (Vx rfl) rfl ?_
   refine Vd rfl rfl (by decide) rfl ?_
   refine Vd rfl rfl (by decide) rfl ?_
   refine Vd rfl rfl (by decide) rfl ?_
   refine Vd rfl rfl (by decide) rfl ?_
   refine Vd rfl rfl (by decide) rfl ?_
   refine Vd rfl rfl (by decide) rfl ?_
   refine Vd rfl rfl (by decide) rfl ?_
   refine Va (Xn rfl rfl) rfl ?_
   refine Va (Vx rfl) rfl ?_
   refine Vd rfl rfl (by decide) rfl ?_
   refine Vd rfl rfl (by decide) rfl ?_
   refine Vd rfl rfl (by decide) rfl ?_
   refine Vd rfl rfl (by decide) rfl ?_
   refine Vd rfl rfl (by decide) rfl ?_
   refine Vd rfl rfl (by decide) rfl ?_
   refine Vd rfl rfl (by decide) rfl ?_
   refine Va (Xn rfl rfl) rfl ?_
   refine Va (Vx rfl) rfl ?_
   refine Vd rfl rfl (by decide) rfl ?_
   refine Vd rfl rfl (by decide) rfl ?_
   refine Vd rfl rfl (by decide) rfl ?_
   refine Vd rfl rfl (by decide) rfl ?_
   refine Vd rfl rfl (by decide) rfl ?_
   refine Va (Xn rfl rfl) rfl ?_
   refine Va (Zj rfl) rfl ?_
   refine Ve ?_
   refine Ya ?_
   obtain rfl := Zw hF
   refine fnR ?_
   exact Vm rfl [] (by decide) ⟨Vh rfl (.bool _), trivial⟩ trivial
 ·rintro _ _ _ _ ⟨he, hw⟩
  refine ⟨_, _, _, hw, ?_⟩
  exact Yy he [.bool r] ⟨rfl, trivial⟩ (.bool _) ⟨rfl, rfl⟩

theorem F_ref01_Has_ok {p0 : List Int} {p1 : Int} {r : Bool} (hF : F_ref01_Has p0 p1 = some r) (low : List AObj) :
    Zf Try.prog 16 [.vs 1 (Zt (Zu .i64) p0), .int .i64 p1] low fun x low' => x = .bool r ∧ low' = low := by
 refine Xk (nt := 18) (rs := [.tmp 4]) Try.func16 rfl rfl (Zx rfl) rfl ?_
 refine Vr (Q' := FnE (fun E' lw lc => Xt E' lw lc [(4, .bool r)] low [])) ?_ ?_
 ·unfold F_ref01_Has at hF
  refine Vf ?_
  refine Vc ?_
  refine Va (Zj rfl) rfl ?_
  refine Ve ?_
  refine Vf ?_
  refine Vf ?_
  refine Vc ?_
  refine Va (Xo rfl) rfl ?_
  refine Ve ?_
  refine Xa ?_
  obtain ⟨o2, ho2, hF⟩ := Yb hF
  refine Vr (Yp (F_ref01_Has_L1 p0 p1) (fun s1 E' lw lc => Xt E' lw lc [(0, .vs 1 (Zt (Zu .i64) p0)), (1, .int .i64 p1), (5, .int .i64 s1)] low []) (Sum.elim (fun j3 => OnlyE .ret (fun E' lw lc => Xt E' lw lc [(4, .bool true)] low [])) (fun j4 => OnlyE (.exit 0) (fun E' lw lc => Xt E' lw lc [] low []))) ho2 ?_ (by rintro (_|_) _ _ _ ⟨h, _⟩ <;> cases h) ?_) ?_
  ·exact Vp ⟨rfl, rfl, rfl, trivial⟩
  ·rintro s1 os1 _ _ _ hF hw
   unfold F_ref01_Has_L1 at hF
   refine Yg hw ?_
   refine Vf ?_
   refine Vf ?_
   refine Vc ?_
   refine Va (Vk rfl) rfl ?_
   refine Va (Yr rfl) rfl ?_
   refine Va (Xl (Yl rfl rfl te_32) (congrArg (fun n : Nat => Zu .i64 (n : Int)) (Wa _))) rfl ?_
   refine Va (Zc rfl rfl) rfl ?_
   refine Ve ?_
   refine Xd rfl (fun c5 => ?_) (fun c5 => ?_)
   ·have hF := Ys c5 hF
    refine Xf ?_
    refine Vf ?_
    refine Xa ?_
    refine Vf ?_
    refine Vc ?_
    obtain ⟨x6, h7, hF⟩ := Yb hF
    refine Va (Yr rfl) rfl ?_
    refine Va (Vk rfl) rfl ?_
    refine Va (Xl (Xw rfl rfl h7 te_32 ts_3) (v' := .vptr [.int .i64 x6] 0) rfl) rfl ?_
    refine Va (Xp rfl ta_3 rfl) rfl ?_
    refine Va (Vk rfl) rfl ?_
    refine Va (Zs rfl rfl) rfl ?_
    refine Ve ?_
    refine Xd rfl (fun c8 => ?_) (fun c8 => ?_)
    ·have hF := Ys c8 hF
     refine Vf ?_
     refine Vc ?_
     refine Va (Zj rfl) rfl ?_
     refine Ve ?_
     refine Ya ?_
     obtain rfl := Zw hF
     refine Vz ?_
     exact Vp ⟨rfl, trivial⟩
    ·have hF := Yt c8 hF
     refine Xf ?_
     refine Vc ?_
     refine Va (Vk rfl) rfl ?_
     refine Va (Yv rfl rfl rfl) rfl ?_
     refine Va (Xo rfl) rfl ?_
     refine Ve ?_
     obtain rfl := Zw hF
     refine Vz ?_
     exact Vp ⟨rfl, rfl, rfl, trivial⟩
   ·have hF := Yt c5 hF
    refine Yu ?_
    obtain rfl := Zw hF
    refine Vz ?_
    exact Vp trivial
  ·rcases o2 with j3 | j4
   ·replace hF := elimL hF
    rintro _ _ _ _ ⟨rfl, hw⟩
    refine ⟨_, _, _, hw, ?_⟩
    obtain rfl := Zw hF
    refine fnR ?_
    exact Vp ⟨rfl, trivial⟩
   ·replace hF := elimR hF
    rintro _ _ _ _ ⟨rfl, hw⟩
    refine ⟨_, _, _, hw, ?_⟩
    refine Vf ?_
    refine Vc ?_
    refine Va (Zj rfl) rfl ?_
    refine Ve ?_
    refine Ya ?_
    obtain rfl := Zw hF
    refine fnR ?_
    exact Vp ⟨rfl, trivial⟩
 ·rintro _ _ _ _ ⟨he, hw⟩
  refine ⟨_, _, _, hw, ?_⟩
  exact Yy he [.bool r] ⟨rfl, trivial⟩ (.bool _) ⟨rfl, rfl⟩

theorem F_law14_RecirculateTrue_ok {p0 : List Int} {p1 : Int} {r : Bool} (hF : F_law14_RecirculateTrue p0 p1 = some r) (low : List AObj) :
    Zf Try.prog 5 [.vs 1 (Zt (Zu .u8) p0), .int .i64 p1] low fun x low' => x = .bool r ∧ low' = low := by
 refine Xk (nt := 156) (rs := [.tmp 4]) Try.func5 rfl rfl (Zx rfl) rfl ?_
 refine Vr (Q' := FnE (fun E' lw lc => Xt E' lw lc [(4, .bool r)] low [])) ?_ ?_
 ·unfold F_law14_RecirculateTrue at hF
  refine Vf ?_
  refine Vc ?_
  refine Va (Zj rfl) rfl ?_
  refine Ve ?_
  refine Vf ?_
  refine Vc ?_
  obtain ⟨x1, h2, hF⟩ := Yb hF
  refine Va (Yr rfl) rfl ?_
  refine Vi (vef_callN (r := .tup [.agg [.vs 2 (Zt T_Place.enc x1.1.Mine.Places), .vs 10 (Zt T_Road.enc x1.1.Mine.Roads), .vs 4 (Zt T_Fan.enc x1.1.Fans), .vs 3 (Zt T_Door.enc x1.1.Doors)], .vs 2 (Zt T_Span.enc x1.2.1), .vs 1 (Zt (Zu .i64) x1.2.2)]) (os := []) rfl Try.call8 (F_law14_air_ok h2 _ (Xq rfl rfl))) rfl ?_
  refine Va (rd_mvT rfl) rfl ?_
  refine Va (rd_extract rfl rfl) rfl ?_
  refine Va (rd_extract rfl rfl) rfl ?_
  refine Va (rd_extract rfl rfl) rfl ?_
  refine Vi (Xh rfl rfl tz_31 rfl rfl (Zy _) rfl) rfl ?_
  refine Vi (Vv (p := .agg [.vs 2 (Zt T_Place.enc x1.1.Mine.Places), .vs 10 (Zt T_Road.enc x1.1.Mine.Roads), .vs 4 (Zt T_Fan.enc x1.1.Fans), .vs 3 (Zt T_Door.enc x1.1.Doors)]) (e' := .agg [.vs 2 (Zt T_Place.enc x1.1.Mine.Places), .vs 10 (Zt T_Road.enc x1.1.Mine.Roads), .vs 4 (Zt T_Fan.enc x1.1.Fans), .vs 3 (Zt T_Door.enc x1.1.Doors)]) rfl (Vg rfl rfl) rfl rfl ts_31 rfl (Yc rfl) rfl (Zx rfl) rfl (Xg rfl rfl)) rfl ?_
  refine Va (rd_asV rfl) rfl ?_
  refine Va (rd_asV rfl) rfl ?_
  refine Ve ?_
  refine Vf ?_
  refine Vc ?_
  refine Va (Vb rfl tf_31_0 ts_27 (by decide)) rfl ?_
  refine Va (Xe (ds := [.vs 2 (Zt T_Place.enc x1.1.Mine.Places), .vs 10 (Zt T_Road.enc x1.1.Mine.Roads)]) rfl (Vg rfl rfl) rfl ta_27 ts_27 rfl rfl rfl) rfl ?_
  refine Vi (Xh rfl rfl tz_27 rfl rfl (Zy _) rfl) rfl ?_
  refine Vi (Vv (p := .agg [.vs 2 (Zt T_Place.enc x1.1.Mine.Places), .vs 10 (Zt T_Road.enc x1.1.Mine.Roads)]) (e' := .agg [.vs 2 (Zt T_Place.enc x1.1.Mine.Places), .vs 10 (Zt T_Road.enc x1.1.Mine.Roads)]) rfl (Vg rfl rfl) rfl rfl ts_27 rfl (Yc rfl) rfl (Zx rfl) rfl (Xg rfl rfl)) rfl ?_
  refine Ve ?_
  refine Vf ?_
  refine Vc ?_
  obtain ⟨x3, h4, hF⟩ := Yb hF
  refine Va (Xe (ds := [.vs 2 (Zt T_Place.enc x1.1.Mine.Places), .vs 10 (Zt T_Road.enc x1.1.Mine.Roads)]) rfl (Vg rfl rfl) rfl ta_27 ts_27 rfl rfl rfl) rfl ?_
  refine Va (Yr rfl) rfl ?_
  refine Vi (Xr rfl Try.call12 (F_recirculate_Circles_ok h4 _)) rfl ?_
  refine Va (rd_asV rfl) rfl ?_
  refine Ve ?_
  refine Vf ?_
  refine Vf ?_
  refine Vc ?_
  refine Va (Vb rfl tf_27_1 ts_25 (by decide)) rfl ?_
  refine Va (Vj rfl (Vg rfl rfl) rfl ta_25 rfl) rfl ?_
  refine Va (Xl (Yl rfl rfl te_25) (congrArg (fun n : Nat => Zu .i64 (n : Int)) (Wa _))) rfl ?_
  refine Va (Vk rfl) rfl ?_
  refine Ve ?_
  refine Xa ?_
  obtain ⟨o6, ho6, hF⟩ := Yb hF
  refine Vr (Yp (F_law14_RecirculateTrue_L1 x1 x3) (fun s5 E' lw lc => Xt E' lw lc [(7, .vs 1 (Zt (Zu .i64) x1.2.2)), (8, .ptr (low.length + 0) 0 0 0), (9, .vs 1 (Zt (Zu .i64) x3)), (32, .vs 10 (Zt T_Road.enc x1.1.Mine.Roads)), (33, .int .i64 ((x1.1.Mine.Roads).length : Int)), (34, .int .i64 s5)] low [⟨27, 2, [.agg [.vs 2 (Zt T_Place.enc x1.1.Mine.Places), .vs 10 (Zt T_Road.enc x1.1.Mine.Roads)]], 0⟩]) (Sum.elim (fun j7 => OnlyE .ret (fun E' lw lc => Xt E' lw lc [(4, .bool false)] low [])) (fun j8 => OnlyE (.exit 0) (fun E' lw lc => Xt E' lw lc [] low []))) ho6 ?_ (by rintro (_|_) _ _ _ ⟨h, _⟩ <;> cases h) ?_) ?_
  ·exact Vm rfl [(1, 0)] (by decide) ⟨Vh rfl (.vs _ _), Vs 0 1 rfl rfl, Vh rfl (.vs _ _), Vh rfl (.vs _ _), Vh rfl (.int _ _), Vh rfl (.int _ _), trivial⟩ ⟨⟨_, rfl, rfl, .same _ _ _ _ (Vl ⟨Vn ⟨.vs _ _, .vs _ _, trivial⟩, trivial⟩)⟩, trivial⟩
  ·rintro s5 os5 _ _ _ hF hw
   unfold F_law14_RecirculateTrue_L1 at hF
   refine Yg hw ?_
   refine Vf ?_
   refine Vc ?_
   refine Va (Zc rfl rfl) rfl ?_
   refine Ve ?_
   refine Vf ?_
   refine Xd rfl (fun c9 => ?_) (fun c9 => ?_)
   ·have hF := Ys c9 hF
    refine Xf ?_
    refine Vf ?_
    obtain ⟨o10, ho10, hF⟩ := Yb hF
    refine Vr (Q' := Sum.elim (fun j11 => OnlyE .ret (fun E' lw lc => Xt E' lw lc [(4, .bool false)] low [])) (fun j12 => OnlyE .normal (fun E' lw lc => Xt E' lw lc [(7, .vs 1 (Zt (Zu .i64) x1.2.2)), (8, .ptr (low.length + 0) 0 0 0), (9, .vs 1 (Zt (Zu .i64) x3)), (32, .vs 10 (Zt T_Road.enc x1.1.Mine.Roads)), (33, .int .i64 ((x1.1.Mine.Roads).length : Int)), (34, .int .i64 s5)] low [⟨27, 2, [.agg [.vs 2 (Zt T_Place.enc x1.1.Mine.Places), .vs 10 (Zt T_Road.enc x1.1.Mine.Roads)]], 0⟩])) o10) ?_ ?_
    ·replace hF := ho10
     refine Xa ?_
     refine Vf ?_
     refine Vc ?_
     obtain ⟨x13, h14, hF⟩ := Yb hF
     refine Va (Vk rfl) rfl ?_
     refine Va (Xl (Xw rfl rfl h14 te_25 ts_46) (v' := .vptr [.int .i64 x13.From, .int .i64 x13.To, .int .i64 x13.Length, .int .i64 x13.Area, .bool x13.Walk, .bool x13.Closed, .int .i64 x13.Rest.Low, .int .i64 x13.Rest.High, .int .i64 x13.Lift.Low, .int .i64 x13.Lift.High] 0) rfl) rfl ?_
     refine Va (Zi (ds := [.int .i64 x13.From, .int .i64 x13.To, .int .i64 x13.Length, .int .i64 x13.Area, .bool x13.Walk, .bool x13.Closed, .int .i64 x13.Rest.Low, .int .i64 x13.Rest.High, .int .i64 x13.Lift.Low, .int .i64 x13.Lift.High]) rfl ta_46 ts_46 rfl rfl) rfl ?_
     refine Vi (Xh rfl rfl tz_46 rfl rfl (Zy _) rfl) rfl ?_
     refine Va (Xo rfl) rfl ?_
     refine Vi (Vv (p := .agg [.int .i64 x13.From, .int .i64 x13.To, .int .i64 x13.Length, .int .i64 x13.Area, .bool x13.Walk, .bool x13.Closed, .int .i64 x13.Rest.Low, .int .i64 x13.Rest.High, .int .i64 x13.Lift.Low, .int .i64 x13.Lift.High]) (e' := .agg [.int .i64 x13.From, .int .i64 x13.To, .int .i64 x13.Length, .int .i64 x13.Area, .bool x13.Walk, .bool x13.Closed, .int .i64 x13.Rest.Low, .int .i64 x13.Rest.High, .int .i64 x13.Lift.Low, .int .i64 x13.Lift.High]) rfl (Vg rfl rfl) rfl rfl ts_46 rfl (Yc rfl) rfl (Zx rfl) rfl (Xg rfl rfl)) rfl ?_
     refine Ve ?_
     refine Vf ?_
     refine Vf ?_
     obtain ⟨o15, ho15, hF⟩ := Yb hF
     refine Vr (Q' := (fun o15 => OnlyE .normal (fun E' lw lc => Xt E' lw lc [(7, .vs 1 (Zt (Zu .i64) x1.2.2)), (8, .ptr (low.length + 1) 0 0 0), (9, .vs 1 (Zt (Zu .i64) x3)), (10, .int .i64 s5), (11, .ptr (low.length + 0) 0 0 0), (32, .vs 10 (Zt T_Road.enc x1.1.Mine.Roads)), (33, .int .i64 ((x1.1.Mine.Roads).length : Int)), (34, .int .i64 s5), (47, .bool o15)] low [⟨46, 10, [.agg [.int .i64 x13.From, .int .i64 x13.To, .int .i64 x13.Length, .int .i64 x13.Area, .bool x13.Walk, .bool x13.Closed, .int .i64 x13.Rest.Low, .int .i64 x13.Rest.High, .int .i64 x13.Lift.Low, .int .i64 x13.Lift.High]], 0⟩, ⟨27, 2, [.agg [.vs 2 (Zt T_Place.enc x1.1.Mine.Places), .vs 10 (Zt T_Road.enc x1.1.Mine.Roads)]], 0⟩])) o15) ?_ ?_
     ·replace hF := ho15
      refine Vc ?_
      rcases Zz x13.Closed with c16 | c16
      ·have hF := Ys c16 hF
       refine Va (Vb rfl tf_46_5 ts_4 (by decide)) rfl ?_
       refine Va (Vj rfl (Vg rfl rfl) rfl ta_4 rfl) rfl ?_
       refine Va (Vx rfl) rfl ?_
       refine Vd rfl rfl (neT c16) rfl ?_
       refine Vd rfl rfl (neT c16) rfl ?_
       refine Vd rfl rfl (neT c16) rfl ?_
       refine Vd rfl rfl (neT c16) rfl ?_
       refine Vd rfl rfl (neT c16) rfl ?_
       refine Va (Xm (congrArg Zv c16) rfl) rfl ?_
       refine Ve ?_
       obtain rfl := Zw hF
       refine Vz ?_
       exact Vm rfl [(1, 0), (0, 0)] (by decide) ⟨Vh rfl (.vs _ _), Vs 1 0 rfl rfl, Vh rfl (.vs _ _), Vh rfl (.int _ _), Vs 0 1 rfl rfl, Vh rfl (.vs _ _), Vh rfl (.int _ _), Vh rfl (.int _ _), Vh rfl (.bool _), trivial⟩ ⟨⟨_, rfl, rfl, .same _ _ _ _ (Vl ⟨Vn ⟨.int _ _, .int _ _, .int _ _, .int _ _, .bool _, .bool _, .int _ _, .int _ _, .int _ _, .int _ _, trivial⟩, trivial⟩)⟩, ⟨_, rfl, rfl, .same _ _ _ _ (Vl ⟨Vn ⟨.vs _ _, .vs _ _, trivial⟩, trivial⟩)⟩, trivial⟩
      ·have hF := Yt c16 hF
       obtain ⟨x17, h18, hF⟩ := Yb hF
       refine Va (Vb rfl tf_46_5 ts_4 (by decide)) rfl ?_
       refine Va (Vj rfl (Vg rfl rfl) rfl ta_4 rfl) rfl ?_
       refine Va (Vx rfl) rfl ?_
       refine Xz rfl rfl c16 ?_
       refine Va (Yr rfl) rfl ?_
       refine Xz rfl rfl c16 ?_
       refine Va (Vk rfl) rfl ?_
       refine Xz rfl rfl c16 ?_
       refine Va (Xl (Xw rfl rfl h18 te_32 ts_3) (v' := .vptr [.int .i64 x17] 0) rfl) rfl ?_
       refine Xz rfl rfl c16 ?_
       refine Va (Xp rfl ta_3 rfl) rfl ?_
       refine Xz rfl rfl c16 ?_
       refine Va (Zs rfl rfl) rfl ?_
       refine Va (Xn (congrArg Zv c16) rfl) rfl ?_
       refine Ve ?_
       obtain rfl := Zw hF
       refine Vz ?_
       exact Vm rfl [(1, 0), (0, 0)] (by decide) ⟨Vh rfl (.vs _ _), Vs 1 0 rfl rfl, Vh rfl (.vs _ _), Vh rfl (.int _ _), Vs 0 1 rfl rfl, Vh rfl (.vs _ _), Vh rfl (.int _ _), Vh rfl (.int _ _), Vh rfl (.bool _), trivial⟩ ⟨⟨_, rfl, rfl, .same _ _ _ _ (Vl ⟨Vn ⟨.int _ _, .int _ _, .int _ _, .int _ _, .bool _, .bool _, .int _ _, .int _ _, .int _ _, .int _ _, trivial⟩, trivial⟩)⟩, ⟨_, rfl, rfl, .same _ _ _ _ (Vl ⟨Vn ⟨.vs _ _, .vs _ _, trivial⟩, trivial⟩)⟩, trivial⟩
     ·rintro _ _ _ _ ⟨rfl, hw⟩
      refine ⟨_, _, _, hw, ?_⟩
      refine Xd rfl (fun c19 => ?_) (fun c19 => ?_)
      ·have hF := Ys c19 hF
       refine Yu ?_
       obtain rfl := Zw hF
       refine Vz ?_
       exact Vm rfl [(1, 0)] (by decide) ⟨Vh rfl (.vs _ _), Vs 0 1 rfl rfl, Vh rfl (.vs _ _), Vh rfl (.vs _ _), Vh rfl (.int _ _), Vh rfl (.int _ _), trivial⟩ ⟨⟨_, rfl, rfl, .same _ _ _ _ (Vl ⟨Vn ⟨.vs _ _, .vs _ _, trivial⟩, trivial⟩)⟩, trivial⟩
      ·have hF := Yt c19 hF
       refine Xf ?_
       refine Vf ?_
       refine Zo [[], [0], [], [2], [0, 1], [0, 1, 2, 3, 4]] mixed (by kernel_rfl) rfl ?_
       refine Xx rfl rfl (Vb rfl tf_46_0 ts_3 (by decide)) ?_
       refine Xx rfl rfl (Vj rfl (Vg rfl rfl) rfl ta_3 rfl) ?_
       refine Xx rfl rfl (Vb rfl tf_46_1 ts_3 (by decide)) ?_
       refine Xx rfl rfl (Vj rfl (Vg rfl rfl) rfl ta_3 rfl) ?_
       refine Xx rfl rfl (Xo rfl) ?_
       refine Xx rfl rfl (Xo rfl) ?_
       refine Yk ?_
       refine Vf ?_
       refine Vf ?_
       refine Vc ?_
       obtain ⟨x20, h21, hF⟩ := Yb hF
       refine Va (Yr rfl) rfl ?_
       refine Va (Vk rfl) rfl ?_
       refine Va (Xl (Xw rfl rfl h21 te_32 ts_3) (v' := .vptr [.int .i64 x20] 0) rfl) rfl ?_
       refine Va (Xp rfl ta_3 rfl) rfl ?_
       refine Va (Zc rfl rfl) rfl ?_
       refine Ve ?_
       obtain ⟨o22, ho22, hF⟩ := Yb hF
       refine Vr (Q' := (fun o22 => OnlyE .normal (fun E' lw lc => Xt E' lw lc [(7, .vs 1 (Zt (Zu .i64) x1.2.2)), (8, .ptr (low.length + 0) 0 0 0), (9, .vs 1 (Zt (Zu .i64) x3)), (10, .int .i64 s5), (12, .int .i64 o22.1), (13, .int .i64 o22.2), (32, .vs 10 (Zt T_Road.enc x1.1.Mine.Roads)), (33, .int .i64 ((x1.1.Mine.Roads).length : Int)), (34, .int .i64 s5)] low [⟨27, 2, [.agg [.vs 2 (Zt T_Place.enc x1.1.Mine.Places), .vs 10 (Zt T_Road.enc x1.1.Mine.Roads)]], 0⟩])) o22) ?_ ?_
       ·replace hF := ho22
        refine Xd rfl (fun c23 => ?_) (fun c23 => ?_)
        ·have hF := Ys c23 hF
         refine Vc ?_
         refine Va (Vk rfl) rfl ?_
         refine Va (Vk rfl) rfl ?_
         refine Va (Xo rfl) rfl ?_
         refine Va (Xo rfl) rfl ?_
         refine Ve ?_
         obtain rfl := Zw hF
         refine Vz ?_
         exact Vm rfl [(1, 0)] (by decide) ⟨Vh rfl (.vs _ _), Vs 0 1 rfl rfl, Vh rfl (.vs _ _), Vh rfl (.int _ _), Vh rfl (.int _ _), Vh rfl (.int _ _), Vh rfl (.vs _ _), Vh rfl (.int _ _), Vh rfl (.int _ _), trivial⟩ ⟨⟨_, rfl, rfl, .same _ _ _ _ (Vl ⟨Vn ⟨.vs _ _, .vs _ _, trivial⟩, trivial⟩)⟩, trivial⟩
        ·have hF := Yt c23 hF
         refine Xf ?_
         obtain rfl := Zw hF
         refine Vz ?_
         exact Vm rfl [(1, 0)] (by decide) ⟨Vh rfl (.vs _ _), Vs 0 1 rfl rfl, Vh rfl (.vs _ _), Vh rfl (.int _ _), Vh rfl (.int _ _), Vh rfl (.int _ _), Vh rfl (.vs _ _), Vh rfl (.int _ _), Vh rfl (.int _ _), trivial⟩ ⟨⟨_, rfl, rfl, .same _ _ _ _ (Vl ⟨Vn ⟨.vs _ _, .vs _ _, trivial⟩, trivial⟩)⟩, trivial⟩
       ·rintro _ _ _ _ ⟨rfl, hw⟩
        refine ⟨_, _, _, hw, ?_⟩
        refine Vf ?_
        refine Vf ?_
        obtain ⟨o24, ho24, hF⟩ := Yb hF
        refine Vr (Q' := (fun o24 => OnlyE .normal (fun E' lw lc => Xt E' lw lc [(7, .vs 1 (Zt (Zu .i64) x1.2.2)), (8, .ptr (low.length + 0) 0 0 0), (9, .vs 1 (Zt (Zu .i64) x3)), (10, .int .i64 s5), (12, .int .i64 o22.1), (13, .int .i64 o22.2), (32, .vs 10 (Zt T_Road.enc x1.1.Mine.Roads)), (33, .int .i64 ((x1.1.Mine.Roads).length : Int)), (34, .int .i64 s5), (72, .bool o24)] low [⟨27, 2, [.agg [.vs 2 (Zt T_Place.enc x1.1.Mine.Places), .vs 10 (Zt T_Road.enc x1.1.Mine.Roads)]], 0⟩])) o24) ?_ ?_
        ·replace hF := ho24
         refine Vc ?_
         obtain ⟨x25, h26, hF⟩ := Yb hF
         rcases Zz x25.Surface with c27 | c27
         ·have hF := Ys c27 hF
          refine Va (Vb rfl tf_27_0 ts_24 (by decide)) rfl ?_
          refine Va (Vj rfl (Vg rfl rfl) rfl ta_24 rfl) rfl ?_
          refine Va (Vk rfl) rfl ?_
          refine Va (Xl (Xw rfl rfl h26 te_24 ts_48) (v' := .vptr [.int .i64 x25.Height, .bool x25.Surface] 0) rfl) rfl ?_
          refine Va (Yx rfl tf_48_1 ts_4 (by decide)) rfl ?_
          refine Va (Xp rfl ta_4 rfl) rfl ?_
          refine Va (Vx rfl) rfl ?_
          refine Vd rfl rfl (neT c27) rfl ?_
          refine Vd rfl rfl (neT c27) rfl ?_
          refine Vd rfl rfl (neT c27) rfl ?_
          refine Vd rfl rfl (neT c27) rfl ?_
          refine Vd rfl rfl (neT c27) rfl ?_
          refine Vd rfl rfl (neT c27) rfl ?_
          refine Va (Xm (congrArg Zv c27) rfl) rfl ?_
          refine Ve ?_
          obtain rfl := Zw hF
          refine Vz ?_
          exact Vp ⟨rfl, rfl, rfl, rfl, rfl, rfl, rfl, rfl, rfl, rfl, trivial⟩
         ·have hF := Yt c27 hF
          obtain ⟨x28, h29, hF⟩ := Yb hF
          refine Va (Vb rfl tf_27_0 ts_24 (by decide)) rfl ?_
          refine Va (Vj rfl (Vg rfl rfl) rfl ta_24 rfl) rfl ?_
          refine Va (Vk rfl) rfl ?_
          refine Va (Xl (Xw rfl rfl h26 te_24 ts_48) (v' := .vptr [.int .i64 x25.Height, .bool x25.Surface] 0) rfl) rfl ?_
          refine Va (Yx rfl tf_48_1 ts_4 (by decide)) rfl ?_
          refine Va (Xp rfl ta_4 rfl) rfl ?_
          refine Va (Vx rfl) rfl ?_
          refine Xz rfl rfl c27 ?_
          refine Va (Vb rfl tf_27_0 ts_24 (by decide)) rfl ?_
          refine Xz rfl rfl c27 ?_
          refine Va (Vj rfl (Vg rfl rfl) rfl ta_24 rfl) rfl ?_
          refine Xz rfl rfl c27 ?_
          refine Va (Vk rfl) rfl ?_
          refine Xz rfl rfl c27 ?_
          refine Va (Xl (Xw rfl rfl h29 te_24 ts_48) (v' := .vptr [.int .i64 x28.Height, .bool x28.Surface] 0) rfl) rfl ?_
          refine Xz rfl rfl c27 ?_
          refine Va (Yx rfl tf_48_1 ts_4 (by decide)) rfl ?_
          refine Xz rfl rfl c27 ?_
          refine Va (Xp rfl ta_4 rfl) rfl ?_
          refine Va (Xn (congrArg Zv c27) rfl) rfl ?_
          refine Ve ?_
          obtain rfl := Zw hF
          refine Vz ?_
          exact Vp ⟨rfl, rfl, rfl, rfl, rfl, rfl, rfl, rfl, rfl, rfl, trivial⟩
        ·rintro _ _ _ _ ⟨rfl, hw⟩
         refine ⟨_, _, _, hw, ?_⟩
         refine Xd rfl (fun c30 => ?_) (fun c30 => ?_)
         ·have hF := Ys c30 hF
          refine Yu ?_
          obtain rfl := Zw hF
          refine Vz ?_
          exact Vp ⟨rfl, rfl, rfl, rfl, rfl, rfl, trivial⟩
         ·have hF := Yt c30 hF
          refine Xf ?_
          refine Vf ?_
          refine Vc ?_
          obtain ⟨x31, h32, hF⟩ := Yb hF
          refine Va (Vb rfl tf_27_0 ts_24 (by decide)) rfl ?_
          refine Va (Vj rfl (Vg rfl rfl) rfl ta_24 rfl) rfl ?_
          refine Va (Xl (Yl rfl rfl te_24) (congrArg (fun n : Nat => Zu .i64 (n : Int)) (Wa _))) rfl ?_
          refine Vi (vef_mkN (f := Zv) (zz := false) rfl rfl rfl rfl te_49 ts_4 tb_4 (by decide) tz_4 rfl rfl (Zy _) rfl h32) rfl ?_
          refine Va (rd_asL rfl) rfl ?_
          refine Ve ?_
          refine Vf ?_
          refine Vc ?_
          obtain ⟨x33, h34, hF⟩ := Yb hF
          refine Va (Yw rfl) rfl ?_
          refine Va (Vk rfl) rfl ?_
          refine Va (Zl rfl rfl rfl (Vg rfl rfl) h34 te_49 ts_4) rfl ?_
          refine Vi (vef_stL (p := .bool true) (e' := true) rfl (Vg rfl rfl) (Ye h34).2 rfl ts_4 rfl (Yc rfl) (Zx rfl) rfl (Xg rfl rfl)) rfl ?_
          refine Ve ?_
          refine Vf ?_
          refine Vf ?_
          refine Vc ?_
          refine Va (Xo rfl) rfl ?_
          refine Ve ?_
          refine Xa ?_
          obtain ⟨o36, ho36, hF⟩ := Yb hF
          refine Vr (Yp (F_law14_RecirculateTrue_L2 x1) (fun s35 E' lw lc => Xt E' lw lc [(7, .vs 1 (Zt (Zu .i64) x1.2.2)), (8, .ptr (low.length + 1) 0 0 0), (9, .vs 1 (Zt (Zu .i64) x3)), (10, .int .i64 s5), (12, .int .i64 o22.1), (14, .sl (low.length + 0) 0 0 (s35.2).length), (15, .int .i64 s35.1), (32, .vs 10 (Zt T_Road.enc x1.1.Mine.Roads)), (33, .int .i64 ((x1.1.Mine.Roads).length : Int)), (34, .int .i64 s5)] low [⟨4, 1, Zt Zv s35.2, 0⟩, ⟨27, 2, [.agg [.vs 2 (Zt T_Place.enc x1.1.Mine.Places), .vs 10 (Zt T_Road.enc x1.1.Mine.Roads)]], 0⟩]) (fun o36 => OnlyE (.exit 2) (fun E' lw lc => Xt E' lw lc [(7, .vs 1 (Zt (Zu .i64) x1.2.2)), (8, .ptr (low.length + 1) 0 0 0), (9, .vs 1 (Zt (Zu .i64) x3)), (10, .int .i64 s5), (12, .int .i64 o22.1), (14, .sl (low.length + 0) 0 0 (o36).length), (32, .vs 10 (Zt T_Road.enc x1.1.Mine.Roads)), (33, .int .i64 ((x1.1.Mine.Roads).length : Int)), (34, .int .i64 s5)] low [⟨4, 1, Zt Zv o36, 0⟩, ⟨27, 2, [.agg [.vs 2 (Zt T_Place.enc x1.1.Mine.Places), .vs 10 (Zt T_Road.enc x1.1.Mine.Roads)]], 0⟩])) ho36 ?_ (by rintro _ _ _ _ ⟨h, _⟩ <;> cases h) ?_) ?_
          ·exact Vm rfl [(1, 0), (0, 0)] (by decide) ⟨Vh rfl (.vs _ _), Vs 1 0 rfl rfl, Vh rfl (.vs _ _), Vh rfl (.int _ _), Vh rfl (.int _ _), Xu 0 1 rfl (congrArg (PV.sl _ _ 0) (Eq.trans rfl List.length_set.symm)), Vh rfl (.int _ _), Vh rfl (.vs _ _), Vh rfl (.int _ _), Vh rfl (.int _ _), trivial⟩ ⟨⟨_, rfl, rfl, .same _ _ _ _ (Vq (fun _ => .bool _))⟩, ⟨_, rfl, rfl, .same _ _ _ _ (Vl ⟨Vn ⟨.vs _ _, .vs _ _, trivial⟩, trivial⟩)⟩, trivial⟩
          ·rintro s35 os35 _ _ _ hF hw
           unfold F_law14_RecirculateTrue_L2 at hF
           refine Yg hw ?_
           refine Vf ?_
           refine Vf ?_
           refine Vc ?_
           refine Va (Vk rfl) rfl ?_
           refine Va (Vb rfl tf_27_0 ts_24 (by decide)) rfl ?_
           refine Va (Vj rfl (Vg rfl rfl) rfl ta_24 rfl) rfl ?_
           refine Va (Xl (Yl rfl rfl te_24) (congrArg (fun n : Nat => Zu .i64 (n : Int)) (Wa _))) rfl ?_
           refine Va (Zc rfl rfl) rfl ?_
           refine Ve ?_
           refine Xd rfl (fun c37 => ?_) (fun c37 => ?_)
           ·have hF := Ys c37 hF
            refine Xf ?_
            refine Vf ?_
            refine Xa ?_
            refine Vf ?_
            refine Vc ?_
            refine Va (Vb rfl tf_27_1 ts_25 (by decide)) rfl ?_
            refine Va (Vj rfl (Vg rfl rfl) rfl ta_25 rfl) rfl ?_
            refine Va (Xl (Yl rfl rfl te_25) (congrArg (fun n : Nat => Zu .i64 (n : Int)) (Wa _))) rfl ?_
            refine Va (Vk rfl) rfl ?_
            refine Ve ?_
            refine Xa ?_
            obtain ⟨o39, ho39, hF⟩ := Yb hF
            refine Vr (Yp (F_law14_RecirculateTrue_L3 x1) (fun s38 E' lw lc => Xt E' lw lc [(7, .vs 1 (Zt (Zu .i64) x1.2.2)), (8, .ptr (low.length + 1) 0 0 0), (9, .vs 1 (Zt (Zu .i64) x3)), (10, .int .i64 s5), (12, .int .i64 o22.1), (14, .sl (low.length + 0) 0 0 (s38.2).length), (15, .int .i64 s35.1), (32, .vs 10 (Zt T_Road.enc x1.1.Mine.Roads)), (33, .int .i64 ((x1.1.Mine.Roads).length : Int)), (34, .int .i64 s5), (88, .vs 10 (Zt T_Road.enc x1.1.Mine.Roads)), (89, .int .i64 ((x1.1.Mine.Roads).length : Int)), (90, .int .i64 s38.1)] low [⟨4, 1, Zt Zv s38.2, 0⟩, ⟨27, 2, [.agg [.vs 2 (Zt T_Place.enc x1.1.Mine.Places), .vs 10 (Zt T_Road.enc x1.1.Mine.Roads)]], 0⟩]) (fun o39 => OnlyE (.exit 4) (fun E' lw lc => Xt E' lw lc [(7, .vs 1 (Zt (Zu .i64) x1.2.2)), (8, .ptr (low.length + 1) 0 0 0), (9, .vs 1 (Zt (Zu .i64) x3)), (10, .int .i64 s5), (12, .int .i64 o22.1), (14, .sl (low.length + 0) 0 0 (o39).length), (15, .int .i64 s35.1), (32, .vs 10 (Zt T_Road.enc x1.1.Mine.Roads)), (33, .int .i64 ((x1.1.Mine.Roads).length : Int)), (34, .int .i64 s5)] low [⟨4, 1, Zt Zv o39, 0⟩, ⟨27, 2, [.agg [.vs 2 (Zt T_Place.enc x1.1.Mine.Places), .vs 10 (Zt T_Road.enc x1.1.Mine.Roads)]], 0⟩])) ho39 ?_ (by rintro _ _ _ _ ⟨h, _⟩ <;> cases h) ?_) ?_
            ·exact Vp ⟨rfl, rfl, rfl, rfl, rfl, rfl, rfl, rfl, rfl, rfl, rfl, rfl, rfl, trivial⟩
            ·rintro s38 os38 _ _ _ hF hw
             unfold F_law14_RecirculateTrue_L3 at hF
             refine Yg hw ?_
             refine Vf ?_
             refine Vc ?_
             refine Va (Zc rfl rfl) rfl ?_
             refine Ve ?_
             refine Vf ?_
             refine Xd rfl (fun c40 => ?_) (fun c40 => ?_)
             ·have hF := Ys c40 hF
              refine Xf ?_
              refine Vf ?_
              obtain ⟨o41, ho41, hF⟩ := Yb hF
              refine Vr (Q' := (fun o41 => OnlyE .normal (fun E' lw lc => Xt E' lw lc [(7, .vs 1 (Zt (Zu .i64) x1.2.2)), (8, .ptr (low.length + 1) 0 0 0), (9, .vs 1 (Zt (Zu .i64) x3)), (10, .int .i64 s5), (12, .int .i64 o22.1), (14, .sl (low.length + 0) 0 0 (o41).length), (15, .int .i64 s35.1), (32, .vs 10 (Zt T_Road.enc x1.1.Mine.Roads)), (33, .int .i64 ((x1.1.Mine.Roads).length : Int)), (34, .int .i64 s5), (88, .vs 10 (Zt T_Road.enc x1.1.Mine.Roads)), (89, .int .i64 ((x1.1.Mine.Roads).length : Int)), (90, .int .i64 s38.1)] low [⟨4, 1, Zt Zv o41, 0⟩, ⟨27, 2, [.agg [.vs 2 (Zt T_Place.enc x1.1.Mine.Places), .vs 10 (Zt T_Road.enc x1.1.Mine.Roads)]], 0⟩])) o41) ?_ ?_
              ·replace hF := ho41
               refine Xa ?_
               refine Vf ?_
               refine Vc ?_
               obtain ⟨x42, h43, hF⟩ := Yb hF
               refine Va (Vk rfl) rfl ?_
               refine Va (Xl (Xw rfl rfl h43 te_25 ts_46) (v' := .vptr [.int .i64 x42.From, .int .i64 x42.To, .int .i64 x42.Length, .int .i64 x42.Area, .bool x42.Walk, .bool x42.Closed, .int .i64 x42.Rest.Low, .int .i64 x42.Rest.High, .int .i64 x42.Lift.Low, .int .i64 x42.Lift.High] 0) rfl) rfl ?_
               refine Va (Zi (ds := [.int .i64 x42.From, .int .i64 x42.To, .int .i64 x42.Length, .int .i64 x42.Area, .bool x42.Walk, .bool x42.Closed, .int .i64 x42.Rest.Low, .int .i64 x42.Rest.High, .int .i64 x42.Lift.Low, .int .i64 x42.Lift.High]) rfl ta_46 ts_46 rfl rfl) rfl ?_
               refine Vi (Xh rfl rfl tz_46 rfl rfl (Zy _) rfl) rfl ?_
               refine Va (Xo rfl) rfl ?_
               refine Vi (Vv (p := .agg [.int .i64 x42.From, .int .i64 x42.To, .int .i64 x42.Length, .int .i64 x42.Area, .bool x42.Walk, .bool x42.Closed, .int .i64 x42.Rest.Low, .int .i64 x42.Rest.High, .int .i64 x42.Lift.Low, .int .i64 x42.Lift.High]) (e' := .agg [.int .i64 x42.From, .int .i64 x42.To, .int .i64 x42.Length, .int .i64 x42.Area, .bool x42.Walk, .bool x42.Closed, .int .i64 x42.Rest.Low, .int .i64 x42.Rest.High, .int .i64 x42.Lift.Low, .int .i64 x42.Lift.High]) rfl (Vg rfl rfl) rfl rfl ts_46 rfl (Yc rfl) rfl (Zx rfl) rfl (Xg rfl rfl)) rfl ?_
               refine Ve ?_
               refine Vf ?_
               refine Zo [[], [0], [], [2], [0, 1], [0, 1, 2, 3, 4]] mixed (by kernel_rfl) rfl ?_
               refine Xx rfl rfl (Vb rfl tf_46_0 ts_3 (by decide)) ?_
               refine Xx rfl rfl (Vj rfl (Vg rfl rfl) rfl ta_3 rfl) ?_
               refine Xx rfl rfl (Vb rfl tf_46_1 ts_3 (by decide)) ?_
               refine Xx rfl rfl (Vj rfl (Vg rfl rfl) rfl ta_3 rfl) ?_
               refine Xx rfl rfl (Xo rfl) ?_
               refine Xx rfl rfl (Xo rfl) ?_
               refine Yk ?_
               refine Vf ?_
               refine Vf ?_
               refine Vc ?_
               obtain ⟨x44, h45, hF⟩ := Yb hF
               refine Va (Yr rfl) rfl ?_
               refine Va (Vk rfl) rfl ?_
               refine Va (Xl (Xw rfl rfl h45 te_32 ts_3) (v' := .vptr [.int .i64 x44] 0) rfl) rfl ?_
               refine Va (Xp rfl ta_3 rfl) rfl ?_
               refine Va (Zc rfl rfl) rfl ?_
               refine Ve ?_
               obtain ⟨o46, ho46, hF⟩ := Yb hF
               refine Vr (Q' := (fun o46 => OnlyE .normal (fun E' lw lc => Xt E' lw lc [(7, .vs 1 (Zt (Zu .i64) x1.2.2)), (8, .ptr (low.length + 2) 0 0 0), (9, .vs 1 (Zt (Zu .i64) x3)), (10, .int .i64 s5), (12, .int .i64 o22.1), (14, .sl (low.length + 0) 0 0 (s38.2).length), (15, .int .i64 s35.1), (16, .int .i64 s38.1), (17, .ptr (low.length + 1) 0 0 0), (18, .int .i64 o46.1), (19, .int .i64 o46.2), (32, .vs 10 (Zt T_Road.enc x1.1.Mine.Roads)), (33, .int .i64 ((x1.1.Mine.Roads).length : Int)), (34, .int .i64 s5), (88, .vs 10 (Zt T_Road.enc x1.1.Mine.Roads)), (89, .int .i64 ((x1.1.Mine.Roads).length : Int)), (90, .int .i64 s38.1)] low [⟨4, 1, Zt Zv s38.2, 0⟩, ⟨46, 10, [.agg [.int .i64 x42.From, .int .i64 x42.To, .int .i64 x42.Length, .int .i64 x42.Area, .bool x42.Walk, .bool x42.Closed, .int .i64 x42.Rest.Low, .int .i64 x42.Rest.High, .int .i64 x42.Lift.Low, .int .i64 x42.Lift.High]], 0⟩, ⟨27, 2, [.agg [.vs 2 (Zt T_Place.enc x1.1.Mine.Places), .vs 10 (Zt T_Road.enc x1.1.Mine.Roads)]], 0⟩])) o46) ?_ ?_
               ·replace hF := ho46
                refine Xd rfl (fun c47 => ?_) (fun c47 => ?_)
                ·have hF := Ys c47 hF
                 refine Vc ?_
                 refine Va (Vk rfl) rfl ?_
                 refine Va (Vk rfl) rfl ?_
                 refine Va (Xo rfl) rfl ?_
                 refine Va (Xo rfl) rfl ?_
                 refine Ve ?_
                 obtain rfl := Zw hF
                 refine Vz ?_
                 exact Vm rfl [(0, 0), (2, 0), (1, 0)] (by decide) ⟨Vh rfl (.vs _ _), Vs 2 1 rfl rfl, Vh rfl (.vs _ _), Vh rfl (.int _ _), Vh rfl (.int _ _), Xu 0 0 rfl rfl, Vh rfl (.int _ _), Vh rfl (.int _ _), Vs 1 2 rfl rfl, Vh rfl (.int _ _), Vh rfl (.int _ _), Vh rfl (.vs _ _), Vh rfl (.int _ _), Vh rfl (.int _ _), Vh rfl (.vs _ _), Vh rfl (.int _ _), Vh rfl (.int _ _), trivial⟩ ⟨⟨_, rfl, rfl, .same _ _ _ _ (Vq (fun _ => .bool _))⟩, ⟨_, rfl, rfl, .same _ _ _ _ (Vl ⟨Vn ⟨.int _ _, .int _ _, .int _ _, .int _ _, .bool _, .bool _, .int _ _, .int _ _, .int _ _, .int _ _, trivial⟩, trivial⟩)⟩, ⟨_, rfl, rfl, .same _ _ _ _ (Vl ⟨Vn ⟨.vs _ _, .vs _ _, trivial⟩, trivial⟩)⟩, trivial⟩
                ·have hF := Yt c47 hF
                 refine Xf ?_
                 obtain rfl := Zw hF
                 refine Vz ?_
                 exact Vm rfl [(0, 0), (2, 0), (1, 0)] (by decide) ⟨Vh rfl (.vs _ _), Vs 2 1 rfl rfl, Vh rfl (.vs _ _), Vh rfl (.int _ _), Vh rfl (.int _ _), Xu 0 0 rfl rfl, Vh rfl (.int _ _), Vh rfl (.int _ _), Vs 1 2 rfl rfl, Vh rfl (.int _ _), Vh rfl (.int _ _), Vh rfl (.vs _ _), Vh rfl (.int _ _), Vh rfl (.int _ _), Vh rfl (.vs _ _), Vh rfl (.int _ _), Vh rfl (.int _ _), trivial⟩ ⟨⟨_, rfl, rfl, .same _ _ _ _ (Vq (fun _ => .bool _))⟩, ⟨_, rfl, rfl, .same _ _ _ _ (Vl ⟨Vn ⟨.int _ _, .int _ _, .int _ _, .int _ _, .bool _, .bool _, .int _ _, .int _ _, .int _ _, .int _ _, trivial⟩, trivial⟩)⟩, ⟨_, rfl, rfl, .same _ _ _ _ (Vl ⟨Vn ⟨.vs _ _, .vs _ _, trivial⟩, trivial⟩)⟩, trivial⟩
               ·rintro _ _ _ _ ⟨rfl, hw⟩
                refine ⟨_, _, _, hw, ?_⟩
                refine Vf ?_
                obtain ⟨o48, ho48, hF⟩ := Yb hF
                refine Vr (Q' := (fun o48 => OnlyE .normal (fun E' lw lc => Xt E' lw lc [(7, .vs 1 (Zt (Zu .i64) x1.2.2)), (8, .ptr (low.length + 1) 0 0 0), (9, .vs 1 (Zt (Zu .i64) x3)), (10, .int .i64 s5), (12, .int .i64 o22.1), (14, .sl (low.length + 0) 0 0 (s38.2).length), (15, .int .i64 s35.1), (19, .int .i64 o46.2), (32, .vs 10 (Zt T_Road.enc x1.1.Mine.Roads)), (33, .int .i64 ((x1.1.Mine.Roads).length : Int)), (34, .int .i64 s5), (88, .vs 10 (Zt T_Road.enc x1.1.Mine.Roads)), (89, .int .i64 ((x1.1.Mine.Roads).length : Int)), (90, .int .i64 s38.1), (139, .bool o48)] low [⟨4, 1, Zt Zv s38.2, 0⟩, ⟨27, 2, [.agg [.vs 2 (Zt T_Place.enc x1.1.Mine.Places), .vs 10 (Zt T_Road.enc x1.1.Mine.Roads)]], 0⟩])) o48) ?_ ?_
                ·replace hF := ho48
                 refine Vc ?_
                 rcases Zz (!x42.Closed) with c49 | c49
                 ·have hF := Ys c49 hF
                  obtain ⟨x50, h51, hF⟩ := Yb hF
                  rcases Zz (decide (x50 ≠ 0)) with c52 | c52
                  ·have hF := Ys c52 hF
                   obtain ⟨x53, h54, hF⟩ := Yb hF
                   rcases Zz x53 with c55 | c55
                   ·have hF := Ys c55 hF
                    obtain ⟨x56, h57, hF⟩ := Yb hF
                    rcases Zz (!x56.Surface) with c58 | c58
                    ·have hF := Ys c58 hF
                     obtain ⟨x59, h60, hF⟩ := Yb hF
                     refine Va (Vb rfl tf_46_5 ts_4 (by decide)) rfl ?_
                     refine Va (Vj rfl (Vg rfl rfl) rfl ta_4 rfl) rfl ?_
                     refine Va (rd_not rfl) rfl ?_
                     refine Va (Vx rfl) rfl ?_
                     refine Xz rfl rfl c49 ?_
                     refine Va (Yr rfl) rfl ?_
                     refine Xz rfl rfl c49 ?_
                     refine Va (Vk rfl) rfl ?_
                     refine Xz rfl rfl c49 ?_
                     refine Va (Xl (Xw rfl rfl h51 te_32 ts_3) (v' := .vptr [.int .i64 x50] 0) rfl) rfl ?_
                     refine Xz rfl rfl c49 ?_
                     refine Va (Xp rfl ta_3 rfl) rfl ?_
                     refine Xz rfl rfl c49 ?_
                     refine Va (rd_neq rfl rfl) rfl ?_
                     refine Va (Xm (congrArg Zv c49) rfl) rfl ?_
                     refine Va (Vx rfl) rfl ?_
                     refine Xz rfl rfl c52 ?_
                     refine Va (Yw rfl) rfl ?_
                     refine Xz rfl rfl c52 ?_
                     refine Va (Vk rfl) rfl ?_
                     refine Xz rfl rfl c52 ?_
                     refine Va (Zl rfl rfl rfl (Vg rfl rfl) h54 te_49 ts_4) rfl ?_
                     refine Xz rfl rfl c52 ?_
                     refine Va (Zk rfl (Vg rfl rfl) (Ye h54).2 ta_4 rfl) rfl ?_
                     refine Va (Xm (congrArg Zv c52) rfl) rfl ?_
                     refine Va (Vx rfl) rfl ?_
                     refine Xz rfl rfl c55 ?_
                     refine Va (Vb rfl tf_27_0 ts_24 (by decide)) rfl ?_
                     refine Xz rfl rfl c55 ?_
                     refine Va (Vj rfl (Vg rfl rfl) rfl ta_24 rfl) rfl ?_
                     refine Xz rfl rfl c55 ?_
                     refine Va (Vk rfl) rfl ?_
                     refine Xz rfl rfl c55 ?_
                     refine Va (Xl (Xw rfl rfl h57 te_24 ts_48) (v' := .vptr [.int .i64 x56.Height, .bool x56.Surface] 0) rfl) rfl ?_
                     refine Xz rfl rfl c55 ?_
                     refine Va (Yx rfl tf_48_1 ts_4 (by decide)) rfl ?_
                     refine Xz rfl rfl c55 ?_
                     refine Va (Xp rfl ta_4 rfl) rfl ?_
                     refine Xz rfl rfl c55 ?_
                     refine Va (rd_not rfl) rfl ?_
                     refine Va (Xm (congrArg Zv c55) rfl) rfl ?_
                     refine Va (Vx rfl) rfl ?_
                     refine Xz rfl rfl c58 ?_
                     refine Va (Vb rfl tf_27_0 ts_24 (by decide)) rfl ?_
                     refine Xz rfl rfl c58 ?_
                     refine Va (Vj rfl (Vg rfl rfl) rfl ta_24 rfl) rfl ?_
                     refine Xz rfl rfl c58 ?_
                     refine Va (Vk rfl) rfl ?_
                     refine Xz rfl rfl c58 ?_
                     refine Va (Xl (Xw rfl rfl h60 te_24 ts_48) (v' := .vptr [.int .i64 x59.Height, .bool x59.Surface] 0) rfl) rfl ?_
                     refine Xz rfl rfl c58 ?_
                     refine Va (Yx rfl tf_48_1 ts_4 (by decide)) rfl ?_
                     refine Xz rfl rfl c58 ?_
                     refine Va (Xp rfl ta_4 rfl) rfl ?_
                     refine Xz rfl rfl c58 ?_
                     refine Va (rd_not rfl) rfl ?_
                     refine Va (Xm (congrArg Zv c58) rfl) rfl ?_
                     refine Ve ?_
                     obtain rfl := Zw hF
                     refine Vz ?_
                     exact Vm rfl [(0, 0), (2, 0)] (by decide) ⟨Vh rfl (.vs _ _), Vs 1 2 rfl rfl, Vh rfl (.vs _ _), Vh rfl (.int _ _), Vh rfl (.int _ _), Xu 0 0 rfl rfl, Vh rfl (.int _ _), Vh rfl (.int _ _), Vh rfl (.vs _ _), Vh rfl (.int _ _), Vh rfl (.int _ _), Vh rfl (.vs _ _), Vh rfl (.int _ _), Vh rfl (.int _ _), Vh rfl (.bool _), trivial⟩ ⟨⟨_, rfl, rfl, .same _ _ _ _ (Vq (fun _ => .bool _))⟩, ⟨_, rfl, rfl, .same _ _ _ _ (Vl ⟨Vn ⟨.vs _ _, .vs _ _, trivial⟩, trivial⟩)⟩, trivial⟩
                    ·have hF := Yt c58 hF
                     refine Va (Vb rfl tf_46_5 ts_4 (by decide)) rfl ?_
                     refine Va (Vj rfl (Vg rfl rfl) rfl ta_4 rfl) rfl ?_
                     refine Va (rd_not rfl) rfl ?_
                     refine Va (Vx rfl) rfl ?_
                     refine Xz rfl rfl c49 ?_
                     refine Va (Yr rfl) rfl ?_
                     refine Xz rfl rfl c49 ?_
                     refine Va (Vk rfl) rfl ?_
                     refine Xz rfl rfl c49 ?_
                     refine Va (Xl (Xw rfl rfl h51 te_32 ts_3) (v' := .vptr [.int .i64 x50] 0) rfl) rfl ?_
                     refine Xz rfl rfl c49 ?_
                     refine Va (Xp rfl ta_3 rfl) rfl ?_
                     refine Xz rfl rfl c49 ?_
                     refine Va (rd_neq rfl rfl) rfl ?_
                     refine Va (Xm (congrArg Zv c49) rfl) rfl ?_
                     refine Va (Vx rfl) rfl ?_
                     refine Xz rfl rfl c52 ?_
                     refine Va (Yw rfl) rfl ?_
                     refine Xz rfl rfl c52 ?_
                     refine Va (Vk rfl) rfl ?_
                     refine Xz rfl rfl c52 ?_
                     refine Va (Zl rfl rfl rfl (Vg rfl rfl) h54 te_49 ts_4) rfl ?_
                     refine Xz rfl rfl c52 ?_
                     refine Va (Zk rfl (Vg rfl rfl) (Ye h54).2 ta_4 rfl) rfl ?_
                     refine Va (Xm (congrArg Zv c52) rfl) rfl ?_
                     refine Va (Vx rfl) rfl ?_
                     refine Xz rfl rfl c55 ?_
                     refine Va (Vb rfl tf_27_0 ts_24 (by decide)) rfl ?_
                     refine Xz rfl rfl c55 ?_
                     refine Va (Vj rfl (Vg rfl rfl) rfl ta_24 rfl) rfl ?_
                     refine Xz rfl rfl c55 ?_
                     refine Va (Vk rfl) rfl ?_
                     refine Xz rfl rfl c55 ?_
                     refine Va (Xl (Xw rfl rfl h57 te_24 ts_48) (v' := .vptr [.int .i64 x56.Height, .bool x56.Surface] 0) rfl) rfl ?_
                     refine Xz rfl rfl c55 ?_
                     refine Va (Yx rfl tf_48_1 ts_4 (by decide)) rfl ?_
                     refine Xz rfl rfl c55 ?_
                     refine Va (Xp rfl ta_4 rfl) rfl ?_
                     refine Xz rfl rfl c55 ?_
                     refine Va (rd_not rfl) rfl ?_
                     refine Va (Xm (congrArg Zv c55) rfl) rfl ?_
                     refine Va (Vx rfl) rfl ?_
                     refine Vd rfl rfl (neF c58) rfl ?_
                     refine Vd rfl rfl (neF c58) rfl ?_
                     refine Vd rfl rfl (neF c58) rfl ?_
                     refine Vd rfl rfl (neF c58) rfl ?_
                     refine Vd rfl rfl (neF c58) rfl ?_
                     refine Vd rfl rfl (neF c58) rfl ?_
                     refine Vd rfl rfl (neF c58) rfl ?_
                     refine Va (Xn (congrArg Zv c58) rfl) rfl ?_
                     refine Ve ?_
                     obtain rfl := Zw hF
                     refine Vz ?_
                     exact Vm rfl [(0, 0), (2, 0)] (by decide) ⟨Vh rfl (.vs _ _), Vs 1 2 rfl rfl, Vh rfl (.vs _ _), Vh rfl (.int _ _), Vh rfl (.int _ _), Xu 0 0 rfl rfl, Vh rfl (.int _ _), Vh rfl (.int _ _), Vh rfl (.vs _ _), Vh rfl (.int _ _), Vh rfl (.int _ _), Vh rfl (.vs _ _), Vh rfl (.int _ _), Vh rfl (.int _ _), Vh rfl (.bool _), trivial⟩ ⟨⟨_, rfl, rfl, .same _ _ _ _ (Vq (fun _ => .bool _))⟩, ⟨_, rfl, rfl, .same _ _ _ _ (Vl ⟨Vn ⟨.vs _ _, .vs _ _, trivial⟩, trivial⟩)⟩, trivial⟩
                   ·have hF := Yt c55 hF
                    refine Va (Vb rfl tf_46_5 ts_4 (by decide)) rfl ?_
                    refine Va (Vj rfl (Vg rfl rfl) rfl ta_4 rfl) rfl ?_
                    refine Va (rd_not rfl) rfl ?_
                    refine Va (Vx rfl) rfl ?_
                    refine Xz rfl rfl c49 ?_
                    refine Va (Yr rfl) rfl ?_
                    refine Xz rfl rfl c49 ?_
                    refine Va (Vk rfl) rfl ?_
                    refine Xz rfl rfl c49 ?_
                    refine Va (Xl (Xw rfl rfl h51 te_32 ts_3) (v' := .vptr [.int .i64 x50] 0) rfl) rfl ?_
                    refine Xz rfl rfl c49 ?_
                    refine Va (Xp rfl ta_3 rfl) rfl ?_
                    refine Xz rfl rfl c49 ?_
                    refine Va (rd_neq rfl rfl) rfl ?_
                    refine Va (Xm (congrArg Zv c49) rfl) rfl ?_
                    refine Va (Vx rfl) rfl ?_
                    refine Xz rfl rfl c52 ?_
                    refine Va (Yw rfl) rfl ?_
                    refine Xz rfl rfl c52 ?_
                    refine Va (Vk rfl) rfl ?_
                    refine Xz rfl rfl c52 ?_
                    refine Va (Zl rfl rfl rfl (Vg rfl rfl) h54 te_49 ts_4) rfl ?_
                    refine Xz rfl rfl c52 ?_
                    refine Va (Zk rfl (Vg rfl rfl) (Ye h54).2 ta_4 rfl) rfl ?_
                    refine Va (Xm (congrArg Zv c52) rfl) rfl ?_
                    refine Va (Vx rfl) rfl ?_
                    refine Vd rfl rfl (neF c55) rfl ?_
                    refine Vd rfl rfl (neF c55) rfl ?_
                    refine Vd rfl rfl (neF c55) rfl ?_
                    refine Vd rfl rfl (neF c55) rfl ?_
                    refine Vd rfl rfl (neF c55) rfl ?_
                    refine Vd rfl rfl (neF c55) rfl ?_
                    refine Vd rfl rfl (neF c55) rfl ?_
                    refine Va (Xn (congrArg Zv c55) rfl) rfl ?_
                    refine Va (Vx rfl) rfl ?_
                    refine Vd rfl rfl (by decide) rfl ?_
                    refine Vd rfl rfl (by decide) rfl ?_
                    refine Vd rfl rfl (by decide) rfl ?_
                    refine Vd rfl rfl (by decide) rfl ?_
                    refine Vd rfl rfl (by decide) rfl ?_
                    refine Vd rfl rfl (by decide) rfl ?_
                    refine Vd rfl rfl (by decide) rfl ?_
                    refine Va (Xn rfl rfl) rfl ?_
                    refine Ve ?_
                    obtain rfl := Zw hF
                    refine Vz ?_
                    exact Vm rfl [(0, 0), (2, 0)] (by decide) ⟨Vh rfl (.vs _ _), Vs 1 2 rfl rfl, Vh rfl (.vs _ _), Vh rfl (.int _ _), Vh rfl (.int _ _), Xu 0 0 rfl rfl, Vh rfl (.int _ _), Vh rfl (.int _ _), Vh rfl (.vs _ _), Vh rfl (.int _ _), Vh rfl (.int _ _), Vh rfl (.vs _ _), Vh rfl (.int _ _), Vh rfl (.int _ _), Vh rfl (.bool _), trivial⟩ ⟨⟨_, rfl, rfl, .same _ _ _ _ (Vq (fun _ => .bool _))⟩, ⟨_, rfl, rfl, .same _ _ _ _ (Vl ⟨Vn ⟨.vs _ _, .vs _ _, trivial⟩, trivial⟩)⟩, trivial⟩
                  ·have hF := Yt c52 hF
                   refine Va (Vb rfl tf_46_5 ts_4 (by decide)) rfl ?_
                   refine Va (Vj rfl (Vg rfl rfl) rfl ta_4 rfl) rfl ?_
                   refine Va (rd_not rfl) rfl ?_
                   refine Va (Vx rfl) rfl ?_
                   refine Xz rfl rfl c49 ?_
                   refine Va (Yr rfl) rfl ?_
                   refine Xz rfl rfl c49 ?_
                   refine Va (Vk rfl) rfl ?_
                   refine Xz rfl rfl c49 ?_
                   refine Va (Xl (Xw rfl rfl h51 te_32 ts_3) (v' := .vptr [.int .i64 x50] 0) rfl) rfl ?_
                   refine Xz rfl rfl c49 ?_
                   refine Va (Xp rfl ta_3 rfl) rfl ?_
                   refine Xz rfl rfl c49 ?_
                   refine Va (rd_neq rfl rfl) rfl ?_
                   refine Va (Xm (congrArg Zv c49) rfl) rfl ?_
                   refine Va (Vx rfl) rfl ?_
                   refine Vd rfl rfl (neF c52) rfl ?_
                   refine Vd rfl rfl (neF c52) rfl ?_
                   refine Vd rfl rfl (neF c52) rfl ?_
                   refine Vd rfl rfl (neF c52) rfl ?_
                   refine Va (Xn (congrArg Zv c52) rfl) rfl ?_
                   refine Va (Vx rfl) rfl ?_
                   refine Vd rfl rfl (by decide) rfl ?_
                   refine Vd rfl rfl (by decide) rfl ?_
                   refine Vd rfl rfl (by decide) rfl ?_
                   refine Vd rfl rfl (by decide) rfl ?_
                   refine Vd rfl rfl (by decide) rfl ?_
                   refine Vd rfl rfl (by decide) rfl ?_
                   refine Vd rfl rfl (by decide) rfl ?_
                   refine Va (Xn rfl rfl) rfl ?_
                   refine Va (Vx rfl) rfl ?_
                   refine Vd rfl rfl (by decide) rfl ?_
                   refine Vd rfl rfl (by decide) rfl ?_
                   refine Vd rfl rfl (by decide) rfl ?_
                   refine Vd rfl rfl (by decide) rfl ?_
                   refine Vd rfl rfl (by decide) rfl ?_
                   refine Vd rfl rfl (by decide) rfl ?_
                   refine Vd rfl rfl (by decide) rfl ?_
                   refine Va (Xn rfl rfl) rfl ?_
                   refine Ve ?_
                   obtain rfl := Zw hF
                   refine Vz ?_
                   exact Vm rfl [(0, 0), (2, 0)] (by decide) ⟨Vh rfl (.vs _ _), Vs 1 2 rfl rfl, Vh rfl (.vs _ _), Vh rfl (.int _ _), Vh rfl (.int _ _), Xu 0 0 rfl rfl, Vh rfl (.int _ _), Vh rfl (.int _ _), Vh rfl (.vs _ _), Vh rfl (.int _ _), Vh rfl (.int _ _), Vh rfl (.vs _ _), Vh rfl (.int _ _), Vh rfl (.int _ _), Vh rfl (.bool _), trivial⟩ ⟨⟨_, rfl, rfl, .same _ _ _ _ (Vq (fun _ => .bool _))⟩, ⟨_, rfl, rfl, .same _ _ _ _ (Vl ⟨Vn ⟨.vs _ _, .vs _ _, trivial⟩, trivial⟩)⟩, trivial⟩
                 ·have hF := Yt c49 hF
                  refine Va (Vb rfl tf_46_5 ts_4 (by decide)) rfl ?_
                  refine Va (Vj rfl (Vg rfl rfl) rfl ta_4 rfl) rfl ?_
                  refine Va (rd_not rfl) rfl ?_
                  refine Va (Vx rfl) rfl ?_
                  refine Vd rfl rfl (neF c49) rfl ?_
                  refine Vd rfl rfl (neF c49) rfl ?_
                  refine Vd rfl rfl (neF c49) rfl ?_
                  refine Vd rfl rfl (neF c49) rfl ?_
                  refine Vd rfl rfl (neF c49) rfl ?_
                  refine Va (Xn (congrArg Zv c49) rfl) rfl ?_
                  refine Va (Vx rfl) rfl ?_
                  refine Vd rfl rfl (by decide) rfl ?_
                  refine Vd rfl rfl (by decide) rfl ?_
                  refine Vd rfl rfl (by decide) rfl ?_
                  refine Vd rfl rfl (by decide) rfl ?_
                  refine Va (Xn rfl rfl) rfl ?_
                  refine Va (Vx rfl) rfl ?_
                  refine Vd rfl rfl (by decide) rfl ?_
                  refine Vd rfl rfl (by decide) rfl ?_
                  refine Vd rfl rfl (by decide) rfl ?_
                  refine Vd rfl rfl (by decide) rfl ?_
                  refine Vd rfl rfl (by decide) rfl ?_
                  refine Vd rfl rfl (by decide) rfl ?_
                  refine Vd rfl rfl (by decide) rfl ?_
                  refine Va (Xn rfl rfl) rfl ?_
                  refine Va (Vx rfl) rfl ?_
                  refine Vd rfl rfl (by decide) rfl ?_
                  refine Vd rfl rfl (by decide) rfl ?_
                  refine Vd rfl rfl (by decide) rfl ?_
                  refine Vd rfl rfl (by decide) rfl ?_
                  refine Vd rfl rfl (by decide) rfl ?_
                  refine Vd rfl rfl (by decide) rfl ?_
                  refine Vd rfl rfl (by decide) rfl ?_
                  refine Va (Xn rfl rfl) rfl ?_
                  refine Ve ?_
                  obtain rfl := Zw hF
                  refine Vz ?_
                  exact Vm rfl [(0, 0), (2, 0)] (by decide) ⟨Vh rfl (.vs _ _), Vs 1 2 rfl rfl, Vh rfl (.vs _ _), Vh rfl (.int _ _), Vh rfl (.int _ _), Xu 0 0 rfl rfl, Vh rfl (.int _ _), Vh rfl (.int _ _), Vh rfl (.vs _ _), Vh rfl (.int _ _), Vh rfl (.int _ _), Vh rfl (.vs _ _), Vh rfl (.int _ _), Vh rfl (.int _ _), Vh rfl (.bool _), trivial⟩ ⟨⟨_, rfl, rfl, .same _ _ _ _ (Vq (fun _ => .bool _))⟩, ⟨_, rfl, rfl, .same _ _ _ _ (Vl ⟨Vn ⟨.vs _ _, .vs _ _, trivial⟩, trivial⟩)⟩, trivial⟩
                ·rintro _ _ _ _ ⟨rfl, hw⟩
                 refine ⟨_, _, _, hw, ?_⟩
                 refine Xd rfl (fun c61 => ?_) (fun c61 => ?_)
                 ·have hF := Ys c61 hF
                  refine Vc ?_
                  obtain ⟨x62, h63, hF⟩ := Yb hF
                  refine Va (Yw rfl) rfl ?_
                  refine Va (Vk rfl) rfl ?_
                  refine Va (Zl rfl rfl rfl (Vg rfl rfl) h63 te_49 ts_4) rfl ?_
                  refine Vi (vef_stL (p := .bool true) (e' := true) rfl (Vg rfl rfl) (Ye h63).2 rfl ts_4 rfl (Yc rfl) (Zx rfl) rfl (Xg rfl rfl)) rfl ?_
                  refine Ve ?_
                  obtain rfl := Zw hF
                  refine Vz ?_
                  exact Vm rfl [(0, 0), (1, 0)] (by decide) ⟨Vh rfl (.vs _ _), Vs 1 1 rfl rfl, Vh rfl (.vs _ _), Vh rfl (.int _ _), Vh rfl (.int _ _), Xu 0 0 rfl (congrArg (PV.sl _ _ 0) (Eq.trans rfl List.length_set.symm)), Vh rfl (.int _ _), Vh rfl (.vs _ _), Vh rfl (.int _ _), Vh rfl (.int _ _), Vh rfl (.vs _ _), Vh rfl (.int _ _), Vh rfl (.int _ _), trivial⟩ ⟨⟨_, rfl, rfl, .same _ _ _ _ (Vq (fun _ => .bool _))⟩, ⟨_, rfl, rfl, .same _ _ _ _ (Vl ⟨Vn ⟨.vs _ _, .vs _ _, trivial⟩, trivial⟩)⟩, trivial⟩
                 ·have hF := Yt c61 hF
                  refine Xf ?_
                  obtain rfl := Zw hF
                  refine Vz ?_
                  exact Vp ⟨rfl, rfl, rfl, rfl, rfl, rfl, rfl, rfl, rfl, rfl, rfl, rfl, rfl, trivial⟩
              ·rintro _ _ _ _ ⟨rfl, hw⟩
               refine ⟨_, _, _, hw, ?_⟩
               refine Vc ?_
               refine Va (Yv rfl rfl rfl) rfl ?_
               refine Va (Vk rfl) rfl ?_
               refine Ve ?_
               obtain rfl := Zw hF
               refine Vz ?_
               exact Vp ⟨rfl, rfl, rfl, rfl, rfl, rfl, rfl, rfl, rfl, rfl, rfl, rfl, rfl, trivial⟩
             ·have hF := Yt c40 hF
              refine Yu ?_
              obtain rfl := Zw hF
              refine Vz ?_
              exact Vp ⟨rfl, rfl, rfl, rfl, rfl, rfl, rfl, rfl, rfl, rfl, trivial⟩
            ·rintro _ _ _ _ ⟨rfl, hw⟩
             refine ⟨_, _, _, hw, ?_⟩
             refine Vc ?_
             refine Va (Vk rfl) rfl ?_
             refine Va (Yv rfl rfl rfl) rfl ?_
             refine Va (Xo rfl) rfl ?_
             refine Ve ?_
             obtain rfl := Zw hF
             refine Vz ?_
             exact Vp ⟨rfl, rfl, rfl, rfl, rfl, rfl, rfl, rfl, rfl, rfl, trivial⟩
           ·have hF := Yt c37 hF
            refine Yu ?_
            obtain rfl := Zw hF
            refine Vz ?_
            exact Vp ⟨rfl, rfl, rfl, rfl, rfl, rfl, rfl, rfl, rfl, trivial⟩
          ·rintro _ _ _ _ ⟨rfl, hw⟩
           refine ⟨_, _, _, hw, ?_⟩
           refine Vf ?_
           obtain ⟨o64, ho64, hF⟩ := Yb hF
           refine Vr (Q' := (fun o64 => OnlyE .normal (fun E' lw lc => Xt E' lw lc [(7, .vs 1 (Zt (Zu .i64) x1.2.2)), (8, .ptr (low.length + 0) 0 0 0), (9, .vs 1 (Zt (Zu .i64) x3)), (32, .vs 10 (Zt T_Road.enc x1.1.Mine.Roads)), (33, .int .i64 ((x1.1.Mine.Roads).length : Int)), (34, .int .i64 s5), (153, .bool o64)] low [⟨27, 2, [.agg [.vs 2 (Zt T_Place.enc x1.1.Mine.Places), .vs 10 (Zt T_Road.enc x1.1.Mine.Roads)]], 0⟩])) o64) ?_ ?_
           ·replace hF := ho64
            refine Vc ?_
            obtain ⟨x65, h66, hF⟩ := Yb hF
            rcases Zz x65 with c67 | c67
            ·have hF := Ys c67 hF
             obtain ⟨x68, h69, hF⟩ := Yb hF
             refine Va (Yw rfl) rfl ?_
             refine Va (Vk rfl) rfl ?_
             refine Va (Zl rfl rfl rfl (Vg rfl rfl) h66 te_49 ts_4) rfl ?_
             refine Va (Zk rfl (Vg rfl rfl) (Ye h66).2 ta_4 rfl) rfl ?_
             refine Va (Vx rfl) rfl ?_
             refine Xz rfl rfl c67 ?_
             refine Va (Yr rfl) rfl ?_
             refine Xz rfl rfl c67 ?_
             refine Va (Vk rfl) rfl ?_
             refine Xz rfl rfl c67 ?_
             refine Vi (Xr rfl Try.call16 (F_ref01_Has_ok h69 _)) rfl ?_
             refine Xz rfl rfl c67 ?_
             refine Va (rd_not rfl) rfl ?_
             refine Va (Xm (congrArg Zv c67) rfl) rfl ?_
             refine Ve ?_
             obtain rfl := Zw hF
             refine Vz ?_
             exact Vm rfl [(1, 0)] (by decide) ⟨Vh rfl (.vs _ _), Vs 0 1 rfl rfl, Vh rfl (.vs _ _), Vh rfl (.vs _ _), Vh rfl (.int _ _), Vh rfl (.int _ _), Vh rfl (.bool _), trivial⟩ ⟨⟨_, rfl, rfl, .same _ _ _ _ (Vl ⟨Vn ⟨.vs _ _, .vs _ _, trivial⟩, trivial⟩)⟩, trivial⟩
            ·have hF := Yt c67 hF
             refine Va (Yw rfl) rfl ?_
             refine Va (Vk rfl) rfl ?_
             refine Va (Zl rfl rfl rfl (Vg rfl rfl) h66 te_49 ts_4) rfl ?_
             refine Va (Zk rfl (Vg rfl rfl) (Ye h66).2 ta_4 rfl) rfl ?_
             refine Va (Vx rfl) rfl ?_
             refine Vd rfl rfl (neF c67) rfl ?_
             refine Vd rfl rfl (neF c67) rfl ?_
             refine Vd rfl rfl (neF c67) rfl ?_
             refine Vd rfl rfl (neF c67) rfl ?_
             refine Va (Xn (congrArg Zv c67) rfl) rfl ?_
             refine Ve ?_
             obtain rfl := Zw hF
             refine Vz ?_
             exact Vm rfl [(1, 0)] (by decide) ⟨Vh rfl (.vs _ _), Vs 0 1 rfl rfl, Vh rfl (.vs _ _), Vh rfl (.vs _ _), Vh rfl (.int _ _), Vh rfl (.int _ _), Vh rfl (.bool _), trivial⟩ ⟨⟨_, rfl, rfl, .same _ _ _ _ (Vl ⟨Vn ⟨.vs _ _, .vs _ _, trivial⟩, trivial⟩)⟩, trivial⟩
           ·rintro _ _ _ _ ⟨rfl, hw⟩
            refine ⟨_, _, _, hw, ?_⟩
            refine Xd rfl (fun c70 => ?_) (fun c70 => ?_)
            ·have hF := Ys c70 hF
             refine Vf ?_
             refine Vc ?_
             refine Va (Zj rfl) rfl ?_
             refine Ve ?_
             refine Ya ?_
             obtain rfl := Zw hF
             refine Vz ?_
             exact Vm rfl [] (by decide) ⟨Vh rfl (.bool _), trivial⟩ trivial
            ·have hF := Yt c70 hF
             refine Xf ?_
             obtain rfl := Zw hF
             refine Vz ?_
             exact Vp ⟨rfl, rfl, rfl, rfl, rfl, rfl, trivial⟩
    ·rcases o10 with j11 | j12
     ·replace hF := elimL hF
      rintro _ _ _ _ ⟨rfl, hw⟩
      refine ⟨_, _, _, hw, ?_⟩
      obtain rfl := Zw hF
      refine Vz ?_
      exact Vp ⟨rfl, trivial⟩
     ·replace hF := elimR hF
      rintro _ _ _ _ ⟨rfl, hw⟩
      refine ⟨_, _, _, hw, ?_⟩
      refine Vc ?_
      refine Va (Yv rfl rfl rfl) rfl ?_
      refine Va (Vk rfl) rfl ?_
      refine Ve ?_
      obtain rfl := Zw hF
      refine Vz ?_
      exact Vp ⟨rfl, rfl, rfl, rfl, rfl, rfl, trivial⟩
   ·have hF := Yt c9 hF
    refine Yu ?_
    obtain rfl := Zw hF
    refine Vz ?_
    exact Vm rfl [] (by decide) trivial trivial
  ·rcases o6 with j7 | j8
   ·replace hF := elimL hF
    rintro _ _ _ _ ⟨rfl, hw⟩
    refine ⟨_, _, _, hw, ?_⟩
    obtain rfl := Zw hF
    refine fnR ?_
    exact Vp ⟨rfl, trivial⟩
   ·replace hF := elimR hF
    rintro _ _ _ _ ⟨rfl, hw⟩
    refine ⟨_, _, _, hw, ?_⟩
    refine Vf ?_
    refine Vc ?_
    obtain ⟨x71, h72, hF⟩ := Yb hF
    refine Vi (Xr rfl Try.call14 (F_law14_awake_ok h72 _)) rfl ?_
    refine Va (Zj rfl) rfl ?_
    refine Ve ?_
    refine Ya ?_
    obtain rfl := Zw hF
    refine fnR ?_
    exact Vp ⟨rfl, trivial⟩
 ·rintro _ _ _ _ ⟨he, hw⟩
  refine ⟨_, _, _, hw, ?_⟩
  exact Yy he [.bool r] ⟨rfl, trivial⟩ (.bool _) ⟨rfl, rfl⟩

end Go.Proofs.Ytaedmgkcmbhicaa
