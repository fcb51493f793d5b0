/- Printed by wip/lift/lift.py: the walks that show that the program computes them. -/
import Derived.Test.YtaedmgkcmbhicaaL14RecirculateWiderW3
namespace Go.Proofs.Ytaedmgkcmbhicaa
open Go Go.Aml Go.L
attribute [local irreducible] VRd VEf VOp VOps VWp DOps
set_option linter.unusedVariables false
open Go.Aml renaming vops_rd → Va, rd_fieldAddr → Vb, vwp_region → Vc, vwp_seq → Vd, vops_nil → Ve, getO_N → Vf, vops_skip → Vg, vops_efE → Vh, rd_load1 → Vi, rn_low → Vj, rd_mvI → Vk, weak_sub → Vl, lenS → Vm, weak_pick → Vn, lt_agg → Vo, ltObj_es → Vp, ltObj_map → Vq, vwp_monoW → Vr, cv_same → Vs, all1 → Vt, rn_ptr → Vu, dops_rdW → Vv, vef_store → Vw, nn_same → Vx, rd_loadN → Vy, vwp_block → Vz, rd_mvP → Xa, vef_callS → Xb, vwp_cond → Xc, rd_mvB → Xd, vwp_skip → Xe, setO_N → Xf, onlyE → Xg, vef_allocN → Xh, len_setL → Xi, vcalls_of_body → Xj, vef_callP → Xk, sets_nil → Xl, rd_to → Xm, rd_asI → Xn, dr1 → Xo, VRd → Xp, rd_loadV1 → Xq, len_app → Xr, dops_ef → Xs, Weak → Xt, rd_pickT → Xu, rd_pickF → Xv, vwp_ret → Xw, rn_sl → Xx, rd_build → Xy, bnd → Xz, rd_mvV → Ya, rd_ixV → Yb, nt_all2 → Yc, nt_ne → Yd, vwp_weak → Ye, dops_nil → Yf, getI_some → Yg, dops_skip → Yh, lt_map → Yi, weak_freezeN → Yj, ltObjN → Yk, all0 → Yl, rd_nilPtr → Ym, rd_lenV → Yn, vef_litF → Yo, sets_B → Yp, vwp_loopC → Yq, Lift → Yr, vt1 → Ys, rd_add → Yt, bifT → Yu, bifF → Yv, bodyQ_pure → Yw, vwp_exit → Yx, full_take → Yy, rd_mvL → Yz, getO_B → Za, get_B → Zb, rd_lss → Zc, vwp_drawn → Zd, VCalls → Ze, lp_bindE → Zf, nt_all → Zg, rd_asB → Zh, rd_loadVN → Zi, rd_fieldVaddr → Zj, vwp_drawn0 → Zk, rd_ixS → Zl, rd_sub → Zm, rd_ldL1 → Zn, dopx_rd → Zo, rx1 → Zp, vef_apL → Zq, vef_boxN → Zr, src_vs → Zs, nt_of → Zt, rd_eql → Zu, lenAll → Zv
open List renaming map → Zw
open Go.Aml.PV renaming int → Zx
open Go.Aml.PV renaming bool → Zy
open Option.some renaming inj → Zz
open Nat renaming le_of_ble_eq_true → Wa
open Nat renaming succ_pos → Wb
open Bool renaming eq_false_or_eq_true → Wc
open List renaming length_map → Wd
set_option maxHeartbeats 4000000

theorem F_law14_awake_ok  {r : Bool} (hF : F_law14_awake = some r) (low : List AObj) :
    Ze Try.prog 14 [] low fun x low' => x = .bool r ∧ low' = low := by
 refine Xj (nt := 62) (rs := [.tmp 0]) Try.func14 rfl rfl (Wa rfl) rfl ?_
 refine Vr (Q' := FnE (fun E' lw lc => Xt E' lw lc [(0, .bool r)] low [])) ?_ ?_
 ·unfold F_law14_awake at hF
  refine Vd ?_
  refine Vc ?_
  refine Va (Zh rfl) rfl ?_
  refine Ve ?_
  refine Vd ?_
  refine Vc ?_
  refine Va (Xy (vs := [(0, .int .i64 1), (1, .int .i64 1)]) (ds := [.int .i64 1, .int .i64 1]) tz_44 rfl rfl tp_44 ⟨rfl, rfl, rfl, rfl, trivial⟩ (Yc rfl) rfl) rfl ?_
  refine Va (Xy (vs := [(0, .int .i64 0), (1, .int .i64 1), (2, .int .i64 1), (3, .int .i64 1), (6, .agg [.int .i64 1, .int .i64 1])]) (ds := [.int .i64 0, .int .i64 1, .int .i64 1, .int .i64 1, .bool false, .bool false, .int .i64 1, .int .i64 1, .int .i64 0, .int .i64 0]) tz_46 rfl rfl tp_46 ⟨rfl, rfl, rfl, rfl, rfl, rfl, rfl, rfl, rfl, rfl, trivial⟩ (Yc rfl) rfl) rfl ?_
  refine Vh (Xh rfl rfl tz_46 rfl rfl (Wb _) rfl) rfl ?_
  refine Vh (Vw (p := .agg [.int .i64 0, .int .i64 1, .int .i64 1, .int .i64 1, .bool false, .bool false, .int .i64 1, .int .i64 1, .int .i64 0, .int .i64 0]) (e' := .agg [.int .i64 0, .int .i64 1, .int .i64 1, .int .i64 1, .bool false, .bool false, .int .i64 1, .int .i64 1, .int .i64 0, .int .i64 0]) rfl (Vf rfl rfl) rfl rfl ts_46 rfl (Yd rfl) rfl (Wa rfl) rfl (Xf rfl rfl)) rfl ?_
  refine Ve ?_
  refine Vd ?_
  refine Vc ?_
  refine Va (Xy (vs := []) (ds := [.int .i64 0, .bool false]) tz_48 rfl rfl tp_48 trivial (Yc rfl) rfl) rfl ?_
  refine Va (Xy (vs := []) (ds := [.int .i64 0, .bool false]) tz_48 rfl rfl tp_48 trivial (Yc rfl) rfl) rfl ?_
  refine Vh (Yo (es := Zw T_Place.enc [(T_Place.mk 0 false), (T_Place.mk 0 false)]) ⟨rfl, rfl, rfl, rfl, trivial⟩ rfl rfl (Zg rfl) te_24 ts_48 tz_48 rfl rfl (Wb _) (by decide) (Yi T_Place.enc_lt)) rfl ?_
  refine Va (Vy (ds := [.int .i64 0, .int .i64 1, .int .i64 1, .int .i64 1, .bool false, .bool false, .int .i64 1, .int .i64 1, .int .i64 0, .int .i64 0]) rfl (Vf rfl rfl) rfl ta_46 ts_46 rfl rfl rfl) rfl ?_
  refine Va (Vy (ds := [.int .i64 0, .int .i64 1, .int .i64 1, .int .i64 1, .bool false, .bool false, .int .i64 1, .int .i64 1, .int .i64 0, .int .i64 0]) rfl (Vf rfl rfl) rfl ta_46 ts_46 rfl rfl rfl) rfl ?_
  refine Vh (Yo (es := Zw T_Road.enc [(T_Road.mk 0 1 1 1 false false (T_Span.mk 1 1) (T_Span.mk 0 0)), (T_Road.mk 0 1 1 1 false false (T_Span.mk 1 1) (T_Span.mk 0 0))]) ⟨rfl, rfl, rfl, rfl, trivial⟩ rfl rfl (Zg rfl) te_25 ts_46 tz_46 rfl rfl (Wb _) (by decide) (Yi T_Road.enc_lt)) rfl ?_
  refine Va (Xy (vs := [(0, .vs 2 (Zw T_Place.enc [(T_Place.mk 0 false), (T_Place.mk 0 false)])), (1, .vs 10 (Zw T_Road.enc [(T_Road.mk 0 1 1 1 false false (T_Span.mk 1 1) (T_Span.mk 0 0)), (T_Road.mk 0 1 1 1 false false (T_Span.mk 1 1) (T_Span.mk 0 0))]))]) (ds := [.vs 2 (Zw T_Place.enc [(T_Place.mk 0 false), (T_Place.mk 0 false)]), .vs 10 (Zw T_Road.enc [(T_Road.mk 0 1 1 1 false false (T_Span.mk 1 1) (T_Span.mk 0 0)), (T_Road.mk 0 1 1 1 false false (T_Span.mk 1 1) (T_Span.mk 0 0))])]) tz_27 rfl rfl tp_27 ⟨rfl, rfl, rfl, rfl, trivial⟩ (Yc rfl) rfl) rfl ?_
  refine Vh (Xh rfl rfl tz_27 rfl rfl (Wb _) rfl) rfl ?_
  refine Vh (Vw (p := .agg [.vs 2 (Zw T_Place.enc [(T_Place.mk 0 false), (T_Place.mk 0 false)]), .vs 10 (Zw T_Road.enc [(T_Road.mk 0 1 1 1 false false (T_Span.mk 1 1) (T_Span.mk 0 0)), (T_Road.mk 0 1 1 1 false false (T_Span.mk 1 1) (T_Span.mk 0 0))])]) (e' := .agg [.vs 2 (Zw T_Place.enc [(T_Place.mk 0 false), (T_Place.mk 0 false)]), .vs 10 (Zw T_Road.enc [(T_Road.mk 0 1 1 1 false false (T_Span.mk 1 1) (T_Span.mk 0 0)), (T_Road.mk 0 1 1 1 false false (T_Span.mk 1 1) (T_Span.mk 0 0))])]) rfl (Vf rfl rfl) rfl rfl ts_27 rfl (Yd rfl) rfl (Wa rfl) rfl (Xf rfl rfl)) rfl ?_
  refine Ve ?_
  refine Vd ?_
  refine Vc ?_
  refine Va (Xy (vs := [(0, .int .i64 1), (1, .int .i64 5)]) (ds := [.int .i64 1, .int .i64 5]) tz_44 rfl rfl tp_44 ⟨rfl, rfl, rfl, rfl, trivial⟩ (Yc rfl) rfl) rfl ?_
  refine Va (Xy (vs := [(0, .int .i64 (-5)), (1, .int .i64 (-1))]) (ds := [.int .i64 (-5), .int .i64 (-1)]) tz_44 rfl rfl tp_44 ⟨rfl, rfl, rfl, rfl, trivial⟩ (Yc rfl) rfl) rfl ?_
  refine Vh (Yo (es := Zw T_Span.enc [(T_Span.mk 1 5), (T_Span.mk (-5) (-1))]) ⟨rfl, rfl, rfl, rfl, trivial⟩ rfl rfl (Zg rfl) te_23 ts_44 tz_44 rfl rfl (Wb _) (by decide) (Yi T_Span.enc_lt)) rfl ?_
  refine Va (rd_asV rfl) rfl ?_
  refine Ve ?_
  refine Vd ?_
  refine Vc ?_
  obtain ⟨x1, h2, hF⟩ := Xz hF
  refine Va (Vy (ds := [.vs 2 (Zw T_Place.enc [(T_Place.mk 0 false), (T_Place.mk 0 false)]), .vs 10 (Zw T_Road.enc [(T_Road.mk 0 1 1 1 false false (T_Span.mk 1 1) (T_Span.mk 0 0)), (T_Road.mk 0 1 1 1 false false (T_Span.mk 1 1) (T_Span.mk 0 0))])]) rfl (Vf rfl rfl) rfl ta_27 ts_27 rfl rfl rfl) rfl ?_
  refine Va (Ya rfl) rfl ?_
  refine Vh (Xk rfl Try.call9 (F_recirculate_Ways_ok h2 _)) rfl ?_
  refine Va (rd_asV rfl) rfl ?_
  refine Ve ?_
  refine Vd ?_
  refine Vc ?_
  rcases Wc (decide (((x1).length : Int) = 2)) with c3 | c3
  ·have hF := Yu c3 hF
   obtain ⟨x4, h5, hF⟩ := Xz hF
   rcases Wc ((x4.a0 == 1) && ((x4.a1 == 0) && true)) with c6 | c6
   ·have hF := Yu c6 hF
    obtain ⟨x7, h8, hF⟩ := Xz hF
    obtain ⟨x9, h10, hF⟩ := Xz hF
    rcases Wc x9 with c11 | c11
    ·have hF := Yu c11 hF
     obtain ⟨x12, h13, hF⟩ := Xz hF
     rcases Wc (decide (((x12).length : Int) = 2)) with c14 | c14
     ·have hF := Yu c14 hF
      obtain ⟨x15, h16, hF⟩ := Xz hF
      rcases Wc (decide (((x15).length : Int) = 0)) with c17 | c17
      ·have hF := Yu c17 hF
       obtain ⟨x18, h19, hF⟩ := Xz hF
       obtain ⟨x20, h21, hF⟩ := Xz hF
       refine Va (Ya rfl) rfl ?_
       refine Va (Xm (Yn rfl rfl te_36) (congrArg (fun n : Nat => Zx .i64 (n : Int)) (Wd _))) rfl ?_
       refine Va (Zu rfl rfl) rfl ?_
       refine Va (Xd rfl) rfl ?_
       refine Ys rfl rfl c3 ?_
       refine Va (Ya rfl) rfl ?_
       refine Ys rfl rfl c3 ?_
       refine Va (Xm (Yb rfl rfl h5 te_36 ts_40) (v' := .vptr [.int .i64 x4.a0, .int .i64 x4.a1] 0) rfl) rfl ?_
       refine Ys rfl rfl c3 ?_
       refine Va (Zi (ds := [.int .i64 x4.a0, .int .i64 x4.a1]) rfl ta_40 ts_40 rfl rfl) rfl ?_
       refine Ys rfl rfl c3 ?_
       refine Va (rd_buildA (vs := [(0, .int .i64 1), (1, .int .i64 0)]) (ds := [.int .i64 1, .int .i64 0]) tz_40 rfl rfl tr_40 ts_3 ⟨rfl, rfl, rfl, rfl, trivial⟩ (Yc rfl) rfl) rfl ?_
       refine Ys rfl rfl c3 ?_
       refine Va (rd_eqlV (tab := eqTab) eqTab_ok rfl rfl eqg_40 rfl) rfl ?_
       refine Va (Xu (congrArg Zy c3) rfl) rfl ?_
       refine Va (Xd rfl) rfl ?_
       refine Ys rfl rfl c6 ?_
       refine Va (Vy (ds := [.vs 2 (Zw T_Place.enc [(T_Place.mk 0 false), (T_Place.mk 0 false)]), .vs 10 (Zw T_Road.enc [(T_Road.mk 0 1 1 1 false false (T_Span.mk 1 1) (T_Span.mk 0 0)), (T_Road.mk 0 1 1 1 false false (T_Span.mk 1 1) (T_Span.mk 0 0))])]) rfl (Vf rfl rfl) rfl ta_27 ts_27 rfl rfl rfl) rfl ?_
       refine Ys rfl rfl c6 ?_
       refine Va (Ya rfl) rfl ?_
       refine Ys rfl rfl c6 ?_
       refine Vh (Xk rfl Try.call12 (F_recirculate_Circles_ok h8 _)) rfl ?_
       refine Ys rfl rfl c6 ?_
       refine Vh (Yo (es := Zw (Zx .i64) [0, 1]) ⟨rfl, rfl, rfl, rfl, trivial⟩ rfl rfl (Zg rfl) te_32 ts_3 tz_3 rfl rfl (Wb _) (by decide) (Yi (fun _ => .int _ _))) rfl ?_
       refine Ys rfl rfl c6 ?_
       refine Vh (Xk rfl Try.call11 (F_ref01_Ints_ok h10 _)) rfl ?_
       refine Va (Xu (congrArg Zy c6) rfl) rfl ?_
       refine Va (Xd rfl) rfl ?_
       refine Ys rfl rfl c11 ?_
       refine Va (Vy (ds := [.vs 2 (Zw T_Place.enc [(T_Place.mk 0 false), (T_Place.mk 0 false)]), .vs 10 (Zw T_Road.enc [(T_Road.mk 0 1 1 1 false false (T_Span.mk 1 1) (T_Span.mk 0 0)), (T_Road.mk 0 1 1 1 false false (T_Span.mk 1 1) (T_Span.mk 0 0))])]) rfl (Vf rfl rfl) rfl ta_27 ts_27 rfl rfl rfl) rfl ?_
       refine Ys rfl rfl c11 ?_
       refine Va (Xy (vs := [(0, .int .i64 (-1)), (1, .int .i64 5)]) (ds := [.int .i64 (-1), .int .i64 5]) tz_44 rfl rfl tp_44 ⟨rfl, rfl, rfl, rfl, trivial⟩ (Yc rfl) rfl) rfl ?_
       refine Ys rfl rfl c11 ?_
       refine Va (Xy (vs := [(0, .int .i64 1), (1, .int .i64 5)]) (ds := [.int .i64 1, .int .i64 5]) tz_44 rfl rfl tp_44 ⟨rfl, rfl, rfl, rfl, trivial⟩ (Yc rfl) rfl) rfl ?_
       refine Ys rfl rfl c11 ?_
       refine Vh (Yo (es := Zw T_Span.enc [(T_Span.mk (-1) 5), (T_Span.mk 1 5)]) ⟨rfl, rfl, rfl, rfl, trivial⟩ rfl rfl (Zg rfl) te_23 ts_44 tz_44 rfl rfl (Wb _) (by decide) (Yi T_Span.enc_lt)) rfl ?_
       refine Ys rfl rfl c11 ?_
       refine Vh (Xk rfl Try.call12 (F_recirculate_Circles_ok h13 _)) rfl ?_
       refine Ys rfl rfl c11 ?_
       refine Va (Xm (Yn rfl rfl te_32) (congrArg (fun n : Nat => Zx .i64 (n : Int)) (Wd _))) rfl ?_
       refine Ys rfl rfl c11 ?_
       refine Va (Zu rfl rfl) rfl ?_
       refine Va (Xu (congrArg Zy c11) rfl) rfl ?_
       refine Va (Xd rfl) rfl ?_
       refine Ys rfl rfl c14 ?_
       refine Va (Vy (ds := [.vs 2 (Zw T_Place.enc [(T_Place.mk 0 false), (T_Place.mk 0 false)]), .vs 10 (Zw T_Road.enc [(T_Road.mk 0 1 1 1 false false (T_Span.mk 1 1) (T_Span.mk 0 0)), (T_Road.mk 0 1 1 1 false false (T_Span.mk 1 1) (T_Span.mk 0 0))])]) rfl (Vf rfl rfl) rfl ta_27 ts_27 rfl rfl rfl) rfl ?_
       refine Ys rfl rfl c14 ?_
       refine Va (Xy (vs := [(0, .int .i64 1), (1, .int .i64 5)]) (ds := [.int .i64 1, .int .i64 5]) tz_44 rfl rfl tp_44 ⟨rfl, rfl, rfl, rfl, trivial⟩ (Yc rfl) rfl) rfl ?_
       refine Ys rfl rfl c14 ?_
       refine Va (Xy (vs := [(0, .int .i64 1), (1, .int .i64 5)]) (ds := [.int .i64 1, .int .i64 5]) tz_44 rfl rfl tp_44 ⟨rfl, rfl, rfl, rfl, trivial⟩ (Yc rfl) rfl) rfl ?_
       refine Ys rfl rfl c14 ?_
       refine Vh (Yo (es := Zw T_Span.enc [(T_Span.mk 1 5), (T_Span.mk 1 5)]) ⟨rfl, rfl, rfl, rfl, trivial⟩ rfl rfl (Zg rfl) te_23 ts_44 tz_44 rfl rfl (Wb _) (by decide) (Yi T_Span.enc_lt)) rfl ?_
       refine Ys rfl rfl c14 ?_
       refine Vh (Xk rfl Try.call12 (F_recirculate_Circles_ok h16 _)) rfl ?_
       refine Ys rfl rfl c14 ?_
       refine Va (Xm (Yn rfl rfl te_32) (congrArg (fun n : Nat => Zx .i64 (n : Int)) (Wd _))) rfl ?_
       refine Ys rfl rfl c14 ?_
       refine Va (Zu rfl rfl) rfl ?_
       refine Va (Xu (congrArg Zy c14) rfl) rfl ?_
       refine Va (Xd rfl) rfl ?_
       refine Ys rfl rfl c17 ?_
       refine Va (Vy (ds := [.vs 2 (Zw T_Place.enc [(T_Place.mk 0 false), (T_Place.mk 0 false)]), .vs 10 (Zw T_Road.enc [(T_Road.mk 0 1 1 1 false false (T_Span.mk 1 1) (T_Span.mk 0 0)), (T_Road.mk 0 1 1 1 false false (T_Span.mk 1 1) (T_Span.mk 0 0))])]) rfl (Vf rfl rfl) rfl ta_27 ts_27 rfl rfl rfl) rfl ?_
       refine Ys rfl rfl c17 ?_
       refine Va (Ya rfl) rfl ?_
       refine Ys rfl rfl c17 ?_
       refine Vh (Xk rfl Try.call19 (F_recirculate_Mixed_ok h19 _)) rfl ?_
       refine Ys rfl rfl c17 ?_
       refine Vh (Yo (es := Zw (Zx .i64) [0, 1]) ⟨rfl, rfl, rfl, rfl, trivial⟩ rfl rfl (Zg rfl) te_32 ts_3 tz_3 rfl rfl (Wb _) (by decide) (Yi (fun _ => .int _ _))) rfl ?_
       refine Ys rfl rfl c17 ?_
       refine Vh (Xk rfl Try.call11 (F_ref01_Ints_ok h21 _)) rfl ?_
       refine Va (Xu (congrArg Zy c17) rfl) rfl ?_
       refine Va (Zh rfl) rfl ?_
       refine Ve ?_
       refine Xw ?_
       obtain rfl := Zz hF
       refine fnR ?_
       exact Vn rfl [] (by decide) ⟨Vj rfl (.bool _), trivial⟩ trivial
      ·have hF := Yv c17 hF
       refine Va (Ya rfl) rfl ?_
       refine Va (Xm (Yn rfl rfl te_36) (congrArg (fun n : Nat => Zx .i64 (n : Int)) (Wd _))) rfl ?_
       refine Va (Zu rfl rfl) rfl ?_
       refine Va (Xd rfl) rfl ?_
       refine Ys rfl rfl c3 ?_
       refine Va (Ya rfl) rfl ?_
       refine Ys rfl rfl c3 ?_
       refine Va (Xm (Yb rfl rfl h5 te_36 ts_40) (v' := .vptr [.int .i64 x4.a0, .int .i64 x4.a1] 0) rfl) rfl ?_
       refine Ys rfl rfl c3 ?_
       refine Va (Zi (ds := [.int .i64 x4.a0, .int .i64 x4.a1]) rfl ta_40 ts_40 rfl rfl) rfl ?_
       refine Ys rfl rfl c3 ?_
       refine Va (rd_buildA (vs := [(0, .int .i64 1), (1, .int .i64 0)]) (ds := [.int .i64 1, .int .i64 0]) tz_40 rfl rfl tr_40 ts_3 ⟨rfl, rfl, rfl, rfl, trivial⟩ (Yc rfl) rfl) rfl ?_
       refine Ys rfl rfl c3 ?_
       refine Va (rd_eqlV (tab := eqTab) eqTab_ok rfl rfl eqg_40 rfl) rfl ?_
       refine Va (Xu (congrArg Zy c3) rfl) rfl ?_
       refine Va (Xd rfl) rfl ?_
       refine Ys rfl rfl c6 ?_
       refine Va (Vy (ds := [.vs 2 (Zw T_Place.enc [(T_Place.mk 0 false), (T_Place.mk 0 false)]), .vs 10 (Zw T_Road.enc [(T_Road.mk 0 1 1 1 false false (T_Span.mk 1 1) (T_Span.mk 0 0)), (T_Road.mk 0 1 1 1 false false (T_Span.mk 1 1) (T_Span.mk 0 0))])]) rfl (Vf rfl rfl) rfl ta_27 ts_27 rfl rfl rfl) rfl ?_
       refine Ys rfl rfl c6 ?_
       refine Va (Ya rfl) rfl ?_
       refine Ys rfl rfl c6 ?_
       refine Vh (Xk rfl Try.call12 (F_recirculate_Circles_ok h8 _)) rfl ?_
       refine Ys rfl rfl c6 ?_
       refine Vh (Yo (es := Zw (Zx .i64) [0, 1]) ⟨rfl, rfl, rfl, rfl, trivial⟩ rfl rfl (Zg rfl) te_32 ts_3 tz_3 rfl rfl (Wb _) (by decide) (Yi (fun _ => .int _ _))) rfl ?_
       refine Ys rfl rfl c6 ?_
       refine Vh (Xk rfl Try.call11 (F_ref01_Ints_ok h10 _)) rfl ?_
       refine Va (Xu (congrArg Zy c6) rfl) rfl ?_
       refine Va (Xd rfl) rfl ?_
       refine Ys rfl rfl c11 ?_
       refine Va (Vy (ds := [.vs 2 (Zw T_Place.enc [(T_Place.mk 0 false), (T_Place.mk 0 false)]), .vs 10 (Zw T_Road.enc [(T_Road.mk 0 1 1 1 false false (T_Span.mk 1 1) (T_Span.mk 0 0)), (T_Road.mk 0 1 1 1 false false (T_Span.mk 1 1) (T_Span.mk 0 0))])]) rfl (Vf rfl rfl) rfl ta_27 ts_27 rfl rfl rfl) rfl ?_
       refine Ys rfl rfl c11 ?_
       refine Va (Xy (vs := [(0, .int .i64 (-1)), (1, .int .i64 5)]) (ds := [.int .i64 (-1), .int .i64 5]) tz_44 rfl rfl tp_44 ⟨rfl, rfl, rfl, rfl, trivial⟩ (Yc rfl) rfl) rfl ?_
       refine Ys rfl rfl c11 ?_
       refine Va (Xy (vs := [(0, .int .i64 1), (1, .int .i64 5)]) (ds := [.int .i64 1, .int .i64 5]) tz_44 rfl rfl tp_44 ⟨rfl, rfl, rfl, rfl, trivial⟩ (Yc rfl) rfl) rfl ?_
       refine Ys rfl rfl c11 ?_
       refine Vh (Yo (es := Zw T_Span.enc [(T_Span.mk (-1) 5), (T_Span.mk 1 5)]) ⟨rfl, rfl, rfl, rfl, trivial⟩ rfl rfl (Zg rfl) te_23 ts_44 tz_44 rfl rfl (Wb _) (by decide) (Yi T_Span.enc_lt)) rfl ?_
       refine Ys rfl rfl c11 ?_
       refine Vh (Xk rfl Try.call12 (F_recirculate_Circles_ok h13 _)) rfl ?_
       refine Ys rfl rfl c11 ?_
       refine Va (Xm (Yn rfl rfl te_32) (congrArg (fun n : Nat => Zx .i64 (n : Int)) (Wd _))) rfl ?_
       refine Ys rfl rfl c11 ?_
       refine Va (Zu rfl rfl) rfl ?_
       refine Va (Xu (congrArg Zy c11) rfl) rfl ?_
       refine Va (Xd rfl) rfl ?_
       refine Ys rfl rfl c14 ?_
       refine Va (Vy (ds := [.vs 2 (Zw T_Place.enc [(T_Place.mk 0 false), (T_Place.mk 0 false)]), .vs 10 (Zw T_Road.enc [(T_Road.mk 0 1 1 1 false false (T_Span.mk 1 1) (T_Span.mk 0 0)), (T_Road.mk 0 1 1 1 false false (T_Span.mk 1 1) (T_Span.mk 0 0))])]) rfl (Vf rfl rfl) rfl ta_27 ts_27 rfl rfl rfl) rfl ?_
       refine Ys rfl rfl c14 ?_
       refine Va (Xy (vs := [(0, .int .i64 1), (1, .int .i64 5)]) (ds := [.int .i64 1, .int .i64 5]) tz_44 rfl rfl tp_44 ⟨rfl, rfl, rfl, rfl, trivial⟩ (Yc rfl) rfl) rfl ?_
       refine Ys rfl rfl c14 ?_
       refine Va (Xy (vs := [(0, .int .i64 1), (1, .int .i64 5)]) (ds := [.int .i64 1, .int .i64 5]) tz_44 rfl rfl tp_44 ⟨rfl, rfl, rfl, rfl, trivial⟩ (Yc rfl) rfl) rfl ?_
       refine Ys rfl rfl c14 ?_
       refine Vh (Yo (es := Zw T_Span.enc [(T_Span.mk 1 5), (T_Span.mk 1 5)]) ⟨rfl, rfl, rfl, rfl, trivial⟩ rfl rfl (Zg rfl) te_23 ts_44 tz_44 rfl rfl (Wb _) (by decide) (Yi T_Span.enc_lt)) rfl ?_
       refine Ys rfl rfl c14 ?_
       refine Vh (Xk rfl Try.call12 (F_recirculate_Circles_ok h16 _)) rfl ?_
       refine Ys rfl rfl c14 ?_
       refine Va (Xm (Yn rfl rfl te_32) (congrArg (fun n : Nat => Zx .i64 (n : Int)) (Wd _))) rfl ?_
       refine Ys rfl rfl c14 ?_
       refine Va (Zu rfl rfl) rfl ?_
       refine Va (Xu (congrArg Zy c14) rfl) rfl ?_
       refine Va (Xd rfl) rfl ?_
       refine Vg rfl rfl (neF c17) rfl ?_
       refine Vg rfl rfl (neF c17) rfl ?_
       refine Vg rfl rfl (neF c17) rfl ?_
       refine Vg rfl rfl (neF c17) rfl ?_
       refine Vg rfl rfl (neF c17) rfl ?_
       refine Va (Xv (congrArg Zy c17) rfl) rfl ?_
       refine Va (Zh rfl) rfl ?_
       refine Ve ?_
       refine Xw ?_
       obtain rfl := Zz hF
       refine fnR ?_
       exact Vn rfl [] (by decide) ⟨Vj rfl (.bool _), trivial⟩ trivial
     ·have hF := Yv c14 hF
      refine Va (Ya rfl) rfl ?_
      refine Va (Xm (Yn rfl rfl te_36) (congrArg (fun n : Nat => Zx .i64 (n : Int)) (Wd _))) rfl ?_
      refine Va (Zu rfl rfl) rfl ?_
      refine Va (Xd rfl) rfl ?_
      refine Ys rfl rfl c3 ?_
      refine Va (Ya rfl) rfl ?_
      refine Ys rfl rfl c3 ?_
      refine Va (Xm (Yb rfl rfl h5 te_36 ts_40) (v' := .vptr [.int .i64 x4.a0, .int .i64 x4.a1] 0) rfl) rfl ?_
      refine Ys rfl rfl c3 ?_
      refine Va (Zi (ds := [.int .i64 x4.a0, .int .i64 x4.a1]) rfl ta_40 ts_40 rfl rfl) rfl ?_
      refine Ys rfl rfl c3 ?_
      refine Va (rd_buildA (vs := [(0, .int .i64 1), (1, .int .i64 0)]) (ds := [.int .i64 1, .int .i64 0]) tz_40 rfl rfl tr_40 ts_3 ⟨rfl, rfl, rfl, rfl, trivial⟩ (Yc rfl) rfl) rfl ?_
      refine Ys rfl rfl c3 ?_
      refine Va (rd_eqlV (tab := eqTab) eqTab_ok rfl rfl eqg_40 rfl) rfl ?_
      refine Va (Xu (congrArg Zy c3) rfl) rfl ?_
      refine Va (Xd rfl) rfl ?_
      refine Ys rfl rfl c6 ?_
      refine Va (Vy (ds := [.vs 2 (Zw T_Place.enc [(T_Place.mk 0 false), (T_Place.mk 0 false)]), .vs 10 (Zw T_Road.enc [(T_Road.mk 0 1 1 1 false false (T_Span.mk 1 1) (T_Span.mk 0 0)), (T_Road.mk 0 1 1 1 false false (T_Span.mk 1 1) (T_Span.mk 0 0))])]) rfl (Vf rfl rfl) rfl ta_27 ts_27 rfl rfl rfl) rfl ?_
      refine Ys rfl rfl c6 ?_
      refine Va (Ya rfl) rfl ?_
      refine Ys rfl rfl c6 ?_
      refine Vh (Xk rfl Try.call12 (F_recirculate_Circles_ok h8 _)) rfl ?_
      refine Ys rfl rfl c6 ?_
      refine Vh (Yo (es := Zw (Zx .i64) [0, 1]) ⟨rfl, rfl, rfl, rfl, trivial⟩ rfl rfl (Zg rfl) te_32 ts_3 tz_3 rfl rfl (Wb _) (by decide) (Yi (fun _ => .int _ _))) rfl ?_
      refine Ys rfl rfl c6 ?_
      refine Vh (Xk rfl Try.call11 (F_ref01_Ints_ok h10 _)) rfl ?_
      refine Va (Xu (congrArg Zy c6) rfl) rfl ?_
      refine Va (Xd rfl) rfl ?_
      refine Ys rfl rfl c11 ?_
      refine Va (Vy (ds := [.vs 2 (Zw T_Place.enc [(T_Place.mk 0 false), (T_Place.mk 0 false)]), .vs 10 (Zw T_Road.enc [(T_Road.mk 0 1 1 1 false false (T_Span.mk 1 1) (T_Span.mk 0 0)), (T_Road.mk 0 1 1 1 false false (T_Span.mk 1 1) (T_Span.mk 0 0))])]) rfl (Vf rfl rfl) rfl ta_27 ts_27 rfl rfl rfl) rfl ?_
      refine Ys rfl rfl c11 ?_
      refine Va (Xy (vs := [(0, .int .i64 (-1)), (1, .int .i64 5)]) (ds := [.int .i64 (-1), .int .i64 5]) tz_44 rfl rfl tp_44 ⟨rfl, rfl, rfl, rfl, trivial⟩ (Yc rfl) rfl) rfl ?_
      refine Ys rfl rfl c11 ?_
      refine Va (Xy (vs := [(0, .int .i64 1), (1, .int .i64 5)]) (ds := [.int .i64 1, .int .i64 5]) tz_44 rfl rfl tp_44 ⟨rfl, rfl, rfl, rfl, trivial⟩ (Yc rfl) rfl) rfl ?_
      refine Ys rfl rfl c11 ?_
      refine Vh (Yo (es := Zw T_Span.enc [(T_Span.mk (-1) 5), (T_Span.mk 1 5)]) ⟨rfl, rfl, rfl, rfl, trivial⟩ rfl rfl (Zg rfl) te_23 ts_44 tz_44 rfl rfl (Wb _) (by decide) (Yi T_Span.enc_lt)) rfl ?_
      refine Ys rfl rfl c11 ?_
      refine Vh (Xk rfl Try.call12 (F_recirculate_Circles_ok h13 _)) rfl ?_
      refine Ys rfl rfl c11 ?_
      refine Va (Xm (Yn rfl rfl te_32) (congrArg (fun n : Nat => Zx .i64 (n : Int)) (Wd _))) rfl ?_
      refine Ys rfl rfl c11 ?_
      refine Va (Zu rfl rfl) rfl ?_
      refine Va (Xu (congrArg Zy c11) rfl) rfl ?_
      refine Va (Xd rfl) rfl ?_
      refine Vg rfl rfl (neF c14) rfl ?_
      refine Vg rfl rfl (neF c14) rfl ?_
      refine Vg rfl rfl (neF c14) rfl ?_
      refine Vg rfl rfl (neF c14) rfl ?_
      refine Vg rfl rfl (neF c14) rfl ?_
      refine Vg rfl rfl (neF c14) rfl ?_
      refine Vg rfl rfl (neF c14) rfl ?_
      refine Va (Xv (congrArg Zy c14) rfl) rfl ?_
      refine Va (Xd rfl) rfl ?_
      refine Vg rfl rfl (by decide) rfl ?_
      refine Vg rfl rfl (by decide) rfl ?_
      refine Vg rfl rfl (by decide) rfl ?_
      refine Vg rfl rfl (by decide) rfl ?_
      refine Vg rfl rfl (by decide) rfl ?_
      refine Va (Xv rfl rfl) rfl ?_
      refine Va (Zh rfl) rfl ?_
      refine Ve ?_
      refine Xw ?_
      obtain rfl := Zz hF
      refine fnR ?_
      exact Vn rfl [] (by decide) ⟨Vj rfl (.bool _), trivial⟩ trivial
    ·have hF := Yv c11 hF
     refine Va (Ya rfl) rfl ?_
     refine Va (Xm (Yn rfl rfl te_36) (congrArg (fun n : Nat => Zx .i64 (n : Int)) (Wd _))) rfl ?_
     refine Va (Zu rfl rfl) rfl ?_
     refine Va (Xd rfl) rfl ?_
     refine Ys rfl rfl c3 ?_
     refine Va (Ya rfl) rfl ?_
     refine Ys rfl rfl c3 ?_
     refine Va (Xm (Yb rfl rfl h5 te_36 ts_40) (v' := .vptr [.int .i64 x4.a0, .int .i64 x4.a1] 0) rfl) rfl ?_
     refine Ys rfl rfl c3 ?_
     refine Va (Zi (ds := [.int .i64 x4.a0, .int .i64 x4.a1]) rfl ta_40 ts_40 rfl rfl) rfl ?_
     refine Ys rfl rfl c3 ?_
     refine Va (rd_buildA (vs := [(0, .int .i64 1), (1, .int .i64 0)]) (ds := [.int .i64 1, .int .i64 0]) tz_40 rfl rfl tr_40 ts_3 ⟨rfl, rfl, rfl, rfl, trivial⟩ (Yc rfl) rfl) rfl ?_
     refine Ys rfl rfl c3 ?_
     refine Va (rd_eqlV (tab := eqTab) eqTab_ok rfl rfl eqg_40 rfl) rfl ?_
     refine Va (Xu (congrArg Zy c3) rfl) rfl ?_
     refine Va (Xd rfl) rfl ?_
     refine Ys rfl rfl c6 ?_
     refine Va (Vy (ds := [.vs 2 (Zw T_Place.enc [(T_Place.mk 0 false), (T_Place.mk 0 false)]), .vs 10 (Zw T_Road.enc [(T_Road.mk 0 1 1 1 false false (T_Span.mk 1 1) (T_Span.mk 0 0)), (T_Road.mk 0 1 1 1 false false (T_Span.mk 1 1) (T_Span.mk 0 0))])]) rfl (Vf rfl rfl) rfl ta_27 ts_27 rfl rfl rfl) rfl ?_
     refine Ys rfl rfl c6 ?_
     refine Va (Ya rfl) rfl ?_
     refine Ys rfl rfl c6 ?_
     refine Vh (Xk rfl Try.call12 (F_recirculate_Circles_ok h8 _)) rfl ?_
     refine Ys rfl rfl c6 ?_
     refine Vh (Yo (es := Zw (Zx .i64) [0, 1]) ⟨rfl, rfl, rfl, rfl, trivial⟩ rfl rfl (Zg rfl) te_32 ts_3 tz_3 rfl rfl (Wb _) (by decide) (Yi (fun _ => .int _ _))) rfl ?_
     refine Ys rfl rfl c6 ?_
     refine Vh (Xk rfl Try.call11 (F_ref01_Ints_ok h10 _)) rfl ?_
     refine Va (Xu (congrArg Zy c6) rfl) rfl ?_
     refine Va (Xd rfl) rfl ?_
     refine Vg rfl rfl (neF c11) rfl ?_
     refine Vg rfl rfl (neF c11) rfl ?_
     refine Vg rfl rfl (neF c11) rfl ?_
     refine Vg rfl rfl (neF c11) rfl ?_
     refine Vg rfl rfl (neF c11) rfl ?_
     refine Vg rfl rfl (neF c11) rfl ?_
     refine Vg rfl rfl (neF c11) rfl ?_
     refine Va (Xv (congrArg Zy c11) rfl) rfl ?_
     refine Va (Xd rfl) rfl ?_
     refine Vg rfl rfl (by decide) rfl ?_
     refine Vg rfl rfl (by decide) rfl ?_
     refine Vg rfl rfl (by decide) rfl ?_
     refine Vg rfl rfl (by decide) rfl ?_
     refine Vg rfl rfl (by decide) rfl ?_
     refine Vg rfl rfl (by decide) rfl ?_
     refine Vg rfl rfl (by decide) rfl ?_
     refine Va (Xv rfl rfl) rfl ?_
     refine Va (Xd rfl) rfl ?_
     refine Vg rfl rfl (by decide) rfl ?_
     refine Vg rfl rfl (by decide) rfl ?_
     refine Vg rfl rfl (by decide) rfl ?_
     refine Vg rfl rfl (by decide) rfl ?_
     refine Vg rfl rfl (by decide) rfl ?_
     refine Va (Xv rfl rfl) rfl ?_
     refine Va (Zh rfl) rfl ?_
     refine Ve ?_
     refine Xw ?_
     obtain rfl := Zz hF
     refine fnR ?_
     exact Vn rfl [] (by decide) ⟨Vj rfl (.bool _), trivial⟩ trivial
   ·have hF := Yv c6 hF
    refine Va (Ya rfl) rfl ?_
    refine Va (Xm (Yn rfl rfl te_36) (congrArg (fun n : Nat => Zx .i64 (n : Int)) (Wd _))) rfl ?_
    refine Va (Zu rfl rfl) rfl ?_
    refine Va (Xd rfl) rfl ?_
    refine Ys rfl rfl c3 ?_
    refine Va (Ya rfl) rfl ?_
    refine Ys rfl rfl c3 ?_
    refine Va (Xm (Yb rfl rfl h5 te_36 ts_40) (v' := .vptr [.int .i64 x4.a0, .int .i64 x4.a1] 0) rfl) rfl ?_
    refine Ys rfl rfl c3 ?_
    refine Va (Zi (ds := [.int .i64 x4.a0, .int .i64 x4.a1]) rfl ta_40 ts_40 rfl rfl) rfl ?_
    refine Ys rfl rfl c3 ?_
    refine Va (rd_buildA (vs := [(0, .int .i64 1), (1, .int .i64 0)]) (ds := [.int .i64 1, .int .i64 0]) tz_40 rfl rfl tr_40 ts_3 ⟨rfl, rfl, rfl, rfl, trivial⟩ (Yc rfl) rfl) rfl ?_
    refine Ys rfl rfl c3 ?_
    refine Va (rd_eqlV (tab := eqTab) eqTab_ok rfl rfl eqg_40 rfl) rfl ?_
    refine Va (Xu (congrArg Zy c3) rfl) rfl ?_
    refine Va (Xd rfl) rfl ?_
    refine Vg rfl rfl (neF c6) rfl ?_
    refine Vg rfl rfl (neF c6) rfl ?_
    refine Vg rfl rfl (neF c6) rfl ?_
    refine Vg rfl rfl (neF c6) rfl ?_
    refine Vg rfl rfl (neF c6) rfl ?_
    refine Va (Xv (congrArg Zy c6) rfl) rfl ?_
    refine Va (Xd rfl) rfl ?_
    refine Vg rfl rfl (by decide) rfl ?_
    refine Vg rfl rfl (by decide) rfl ?_
    refine Vg rfl rfl (by decide) rfl ?_
    refine Vg rfl rfl (by decide) rfl ?_
    refine Vg rfl rfl (by decide) rfl ?_
    refine Vg rfl rfl (by decide) rfl ?_
    refine Vg rfl rfl (by decide) rfl ?_
    refine Va (Xv rfl rfl) rfl ?_
    refine Va (Xd rfl) rfl ?_
    refine Vg rfl rfl (by decide) rfl ?_
    refine Vg rfl rfl (by decide) rfl ?_
    refine Vg rfl rfl (by decide) rfl ?_
    refine Vg rfl rfl (by decide) rfl ?_
    refine Vg rfl rfl (by decide) rfl ?_
    refine Vg rfl rfl (by decide) rfl ?_
    refine Vg rfl rfl (by decide) rfl ?_
    refine Va (Xv rfl rfl) rfl ?_
    refine Va (Xd rfl) rfl ?_
    refine Vg rfl rfl (by decide) rfl ?_
    refine Vg rfl rfl (by decide) rfl ?_
    refine Vg rfl rfl (by decide) rfl ?_
    refine Vg rfl rfl (by decide) rfl ?_
    refine Vg rfl rfl (by decide) rfl ?_
    refine Va (Xv rfl rfl) rfl ?_
    refine Va (Zh rfl) rfl ?_
    refine Ve ?_
    refine Xw ?_
    obtain rfl := Zz hF
    refine fnR ?_
    exact Vn rfl [] (by decide) ⟨Vj rfl (.bool _), trivial⟩ trivial
  ·have hF := Yv c3 hF
   refine Va (Ya rfl) rfl ?_
   refine Va (Xm (Yn rfl rfl te_36) (congrArg (fun n : Nat => Zx .i64 (n : Int)) (Wd _))) rfl ?_
   refine Va (Zu rfl rfl) rfl ?_
   refine Va (Xd rfl) rfl ?_
   refine Vg rfl rfl (neF c3) rfl ?_
   refine Vg rfl rfl (neF c3) rfl ?_
   refine Vg rfl rfl (neF c3) rfl ?_
   refine Vg rfl rfl (neF c3) rfl ?_
   refine Vg rfl rfl (neF c3) rfl ?_
   refine Va (Xv (congrArg Zy c3) rfl) rfl ?_
   refine Va (Xd rfl) rfl ?_
   refine Vg rfl rfl (by decide) rfl ?_
   refine Vg rfl rfl (by decide) rfl ?_
   refine Vg rfl rfl (by decide) rfl ?_
   refine Vg rfl rfl (by decide) rfl ?_
   refine Vg rfl rfl (by decide) rfl ?_
   refine Va (Xv rfl rfl) rfl ?_
   refine Va (Xd rfl) rfl ?_
   refine Vg rfl rfl (by decide) rfl ?_
   refine Vg rfl rfl (by decide) rfl ?_
   refine Vg rfl rfl (by decide) rfl ?_
   refine Vg rfl rfl (by decide) rfl ?_
   refine Vg rfl rfl (by decide) rfl ?_
   refine Vg rfl rfl (by decide) rfl ?_
   refine Vg rfl rfl (by decide) rfl ?_
   refine Va (Xv rfl rfl) rfl ?_
   refine Va (Xd rfl) rfl ?_
   refine Vg rfl rfl (by decide) rfl ?_
   refine Vg rfl rfl (by decide) rfl ?_
   refine Vg rfl rfl (by decide) rfl ?_
   refine Vg rfl rfl (by decide) rfl ?_
   refine Vg rfl rfl (by decide) rfl ?_
   refine Vg rfl rfl (by decide) rfl ?_
   refine Vg rfl rfl (by decide) rfl ?_
   refine Va (Xv rfl rfl) rfl ?_
   refine Va (Xd rfl) rfl ?_
   refine Vg rfl rfl (by decide) rfl ?_
   refine Vg rfl rfl (by decide) rfl ?_
   refine Vg rfl rfl (by decide) rfl ?_
   refine Vg rfl rfl (by decide) rfl ?_
   refine Vg rfl rfl (by decide) rfl ?_
   refine Va (Xv rfl rfl) rfl ?_
   refine Va (Zh rfl) rfl ?_
   refine Ve ?_
   refine Xw ?_
   obtain rfl := Zz hF
   refine fnR ?_
   exact Vn rfl [] (by decide) ⟨Vj rfl (.bool _), trivial⟩ trivial
 ·rintro _ _ _ _ ⟨he, hw⟩
  refine ⟨_, _, _, hw, ?_⟩
  exact Yw he [.bool r] ⟨rfl, trivial⟩ (.bool _) ⟨rfl, rfl⟩

theorem F_ref01_Has_ok {p0 : List Int} {p1 : Int} {r : Bool} (hF : F_ref01_Has p0 p1 = some r) (low : List AObj) :
    Ze Try.prog 16 [.vs 1 (Zw (Zx .i64) p0), .int .i64 p1] low fun x low' => x = .bool r ∧ low' = low := by
 refine Xj (nt := 18) (rs := [.tmp 4]) Try.func16 rfl rfl (Wa rfl) rfl ?_
 refine Vr (Q' := FnE (fun E' lw lc => Xt E' lw lc [(4, .bool r)] low [])) ?_ ?_
 ·unfold F_ref01_Has at hF
  refine Vd ?_
  refine Vc ?_
  refine Va (Zh rfl) rfl ?_
  refine Ve ?_
  refine Vd ?_
  refine Vd ?_
  refine Vc ?_
  refine Va (Xn rfl) rfl ?_
  refine Ve ?_
  refine Vz ?_
  obtain ⟨o2, ho2, hF⟩ := Xz hF
  refine Vr (Yq (F_ref01_Has_L1 p0 p1) (fun s1 E' lw lc => Xt E' lw lc [(0, .vs 1 (Zw (Zx .i64) p0)), (1, .int .i64 p1), (5, .int .i64 s1)] low []) (Sum.elim (fun j3 => OnlyE .ret (fun E' lw lc => Xt E' lw lc [(4, .bool true)] low [])) (fun j4 => OnlyE (.exit 0) (fun E' lw lc => Xt E' lw lc [] low []))) ho2 ?_ (by rintro (_|_) _ _ _ ⟨h, _⟩ <;> cases h) ?_) ?_
  ·exact Vl ⟨rfl, rfl, rfl, trivial⟩
  ·rintro s1 os1 _ _ _ hF hw
   unfold F_ref01_Has_L1 at hF
   refine Ye hw ?_
   refine Vd ?_
   refine Vd ?_
   refine Vc ?_
   refine Va (Vk rfl) rfl ?_
   refine Va (Ya rfl) rfl ?_
   refine Va (Xm (Yn rfl rfl te_32) (congrArg (fun n : Nat => Zx .i64 (n : Int)) (Wd _))) rfl ?_
   refine Va (Zc rfl rfl) rfl ?_
   refine Ve ?_
   refine Xc rfl (fun c5 => ?_) (fun c5 => ?_)
   ·have hF := Yu c5 hF
    refine Xe ?_
    refine Vd ?_
    refine Vz ?_
    refine Vd ?_
    refine Vc ?_
    obtain ⟨x6, h7, hF⟩ := Xz hF
    refine Va (Ya rfl) rfl ?_
    refine Va (Vk rfl) rfl ?_
    refine Va (Xm (Yb rfl rfl h7 te_32 ts_3) (v' := .vptr [.int .i64 x6] 0) rfl) rfl ?_
    refine Va (Xq rfl ta_3 rfl) rfl ?_
    refine Va (Vk rfl) rfl ?_
    refine Va (Zu rfl rfl) rfl ?_
    refine Ve ?_
    refine Xc rfl (fun c8 => ?_) (fun c8 => ?_)
    ·have hF := Yu c8 hF
     refine Vd ?_
     refine Vc ?_
     refine Va (Zh rfl) rfl ?_
     refine Ve ?_
     refine Xw ?_
     obtain rfl := Zz hF
     refine Xg ?_
     exact Vl ⟨rfl, trivial⟩
    ·have hF := Yv c8 hF
     refine Xe ?_
     refine Vc ?_
     refine Va (Vk rfl) rfl ?_
     refine Va (Yt rfl rfl rfl) rfl ?_
     refine Va (Xn rfl) rfl ?_
     refine Ve ?_
     obtain rfl := Zz hF
     refine Xg ?_
     exact Vl ⟨rfl, rfl, rfl, trivial⟩
   ·have hF := Yv c5 hF
    refine Yx ?_
    obtain rfl := Zz hF
    refine Xg ?_
    exact Vl trivial
  ·rcases o2 with j3 | j4
   ·replace hF := elimL hF
    rintro _ _ _ _ ⟨rfl, hw⟩
    refine ⟨_, _, _, hw, ?_⟩
    obtain rfl := Zz hF
    refine fnR ?_
    exact Vl ⟨rfl, trivial⟩
   ·replace hF := elimR hF
    rintro _ _ _ _ ⟨rfl, hw⟩
    refine ⟨_, _, _, hw, ?_⟩
    refine Vd ?_
    refine Vc ?_
    refine Va (Zh rfl) rfl ?_
    refine Ve ?_
    refine Xw ?_
    obtain rfl := Zz hF
    refine fnR ?_
    exact Vl ⟨rfl, trivial⟩
 ·rintro _ _ _ _ ⟨he, hw⟩
  refine ⟨_, _, _, hw, ?_⟩
  exact Yw he [.bool r] ⟨rfl, trivial⟩ (.bool _) ⟨rfl, rfl⟩

theorem F_draw_Mod_ok {p0 : Int} {p1 : Int} {r : Int} (hF : F_draw_Mod p0 p1 = some r) (low : List AObj) :
    Ze Try.prog 17 [.int .i64 p0, .int .i64 p1] low fun x low' => x = .int .i64 r ∧ low' = low := by
 refine Xj (nt := 16) (rs := [.tmp 4]) Try.func17 rfl rfl (Wa rfl) rfl ?_
 refine Vr (Q' := FnE (fun E' lw lc => Xt E' lw lc [(4, .int .i64 r)] low [])) ?_ ?_
 ·unfold F_draw_Mod at hF
  refine Vd ?_
  refine Vc ?_
  refine Va (Xn rfl) rfl ?_
  refine Ve ?_
  refine Vd ?_
  refine Vd ?_
  refine Vc ?_
  refine Va (Vk rfl) rfl ?_
  refine Va (Zc rfl rfl) rfl ?_
  refine Ve ?_
  refine Xc rfl (fun c1 => ?_) (fun c1 => ?_)
  ·have hF := Yu c1 hF
   refine Vd ?_
   refine Vc ?_
   refine Va (Xn rfl) rfl ?_
   refine Ve ?_
   refine Xw ?_
   obtain rfl := Zz hF
   refine fnR ?_
   exact Vl ⟨rfl, trivial⟩
  ·have hF := Yv c1 hF
   refine Xe ?_
   refine Vd ?_
   refine Vc ?_
   obtain ⟨x2, h3, hF⟩ := Xz hF
   refine Va (Vk rfl) rfl ?_
   refine Va (Vk rfl) rfl ?_
   refine Va (rd_rem rfl rfl (remI_some h3).1 (remI_some h3).2) rfl ?_
   refine Va (Xn rfl) rfl ?_
   refine Ve ?_
   refine Vd ?_
   refine Vd ?_
   refine Vc ?_
   refine Va (Vk rfl) rfl ?_
   refine Va (Zc rfl rfl) rfl ?_
   refine Ve ?_
   obtain ⟨o4, ho4, hF⟩ := Xz hF
   refine Vr (Q' := (fun o4 => OnlyE .normal (fun E' lw lc => Xt E' lw lc [(0, .int .i64 o4)] low [])) o4) ?_ ?_
   ·replace hF := ho4
    refine Xc rfl (fun c5 => ?_) (fun c5 => ?_)
    ·have hF := Yu c5 hF
     refine Vc ?_
     refine Va (Vk rfl) rfl ?_
     refine Va (Vk rfl) rfl ?_
     refine Va (Yt rfl rfl rfl) rfl ?_
     refine Va (Xn rfl) rfl ?_
     refine Ve ?_
     obtain rfl := Zz hF
     refine Xg ?_
     exact Vl ⟨rfl, trivial⟩
    ·have hF := Yv c5 hF
     refine Xe ?_
     obtain rfl := Zz hF
     refine Xg ?_
     exact Vl ⟨rfl, trivial⟩
   ·rintro _ _ _ _ ⟨rfl, hw⟩
    refine ⟨_, _, _, hw, ?_⟩
    refine Vd ?_
    refine Vc ?_
    refine Va (Vk rfl) rfl ?_
    refine Va (Xn rfl) rfl ?_
    refine Ve ?_
    refine Xw ?_
    obtain rfl := Zz hF
    refine fnR ?_
    exact Vl ⟨rfl, trivial⟩
 ·rintro _ _ _ _ ⟨he, hw⟩
  refine ⟨_, _, _, hw, ?_⟩
  exact Yw he [.int .i64 r] ⟨rfl, trivial⟩ (.int _ _) ⟨rfl, rfl⟩

theorem F_ref01_Copy_ok {p0 : T_Mine} {r : T_Mine} (hF : F_ref01_Copy p0 = some r) (low : List AObj) {n : Nat} (hn : low.length = n) :
    Ze Try.prog 18 [.agg [.vs 2 (Zw T_Place.enc p0.Places), .vs 10 (Zw T_Road.enc p0.Roads)]] low fun x low' => x = .agg [.vs 2 (Zw T_Place.enc r.Places), .sl (n + 0) 0 0 (r.Roads).length] ∧ low' = low ++ [⟨46, 10, Zw T_Road.enc r.Roads, 0⟩] := by
 refine Xj (nt := 10) (rs := [.cell 2 27]) Try.func18 rfl rfl (Wa rfl) rfl ?_
 refine Vr (Q' := FnE (fun E' lw lc => Xt E' lw lc [(2, .ptr (n + 1) 0 0 0)] low [⟨46, 10, Zw T_Road.enc r.Roads, 0⟩, ⟨27, 2, [.agg [.vs 2 (Zw T_Place.enc r.Places), .sl (n + 0) 0 0 (r.Roads).length]], 0⟩])) ?_ ?_
 ·unfold F_ref01_Copy at hF
  refine Vd ?_
  refine Vc ?_
  refine Vh (Zr hn rfl (v := .agg [.vs 2 (Zw T_Place.enc p0.Places), .vs 10 (Zw T_Road.enc p0.Roads)]) rfl rfl (Wb _) rfl rfl) rfl ?_
  refine Vh (Xh hn rfl tz_27 rfl rfl (Wb _) rfl) rfl ?_
  refine Ve ?_
  refine Vd ?_
  obtain ⟨x1, h2, hF⟩ := Xz hF
  obtain ⟨x3, h4, hF⟩ := Xz hF
  refine Zd [[], [0], [0, 1], [], [3], [0, 1, 2, 3, 4], [0, 1, 2, 3, 4, 5], [0, 1, 2, 3, 4, 5, 6]] [false, false, false, false, false, true, false, true] [(low, [⟨27, 2, [.agg [.vs 2 (Zw T_Place.enc p0.Places), .vs 10 (Zw T_Road.enc p0.Roads)]], 0⟩, ⟨27, 2, [.agg [.nils, .nils]], 0⟩]), (low, [⟨27, 2, [.agg [.vs 2 (Zw T_Place.enc p0.Places), .vs 10 (Zw T_Road.enc p0.Roads)]], 0⟩, ⟨27, 2, [.agg [.nils, .nils]], 0⟩, ⟨46, 10, Zw T_Road.enc x3, 0⟩]), (low, [⟨27, 2, [.agg [.vs 2 (Zw T_Place.enc p0.Places), .vs 10 (Zw T_Road.enc p0.Roads)]], 0⟩, ⟨27, 2, [.agg [.vs 2 (Zw T_Place.enc x1), .sl (n + 2) 0 0 (x3).length]], 0⟩, ⟨46, 10, Zw T_Road.enc x3, 0⟩])] mixed (by kernel_rfl) rfl (Zv (Vt rfl (Vt rfl (Vt rfl Yl)))) rfl _ rfl rfl ?_
  refine Xo rfl rfl (Vb rfl tf_27_0 ts_24 (by decide)) ?_
  refine Xo rfl rfl (Vi rfl (Vf hn rfl) rfl ta_24 rfl) ?_
  refine dn1 rfl rfl (Zt (vef_ap0F (f := T_Place.enc) (ys := p0.Places) (.inl rfl) rfl (Zs rfl) (Wb _) te_24 ts_48 tb_48 (by decide) tz_48 rfl T_Place.enc_lt h2)) ?_
  refine Xo rfl rfl (Vb rfl tf_27_1 ts_25 (by decide)) ?_
  refine Xo rfl rfl (Vi rfl (Vf hn rfl) rfl ta_25 rfl) ?_
  refine Xs rfl rfl rfl (vef_ap0N (f := T_Road.enc) (ys := p0.Roads) hn rfl (.inl rfl) rfl (Zs rfl) (Wb _) te_25 ts_46 tb_46 (by decide) tz_46 rfl h4) ?_
  refine Xo rfl rfl (Xy (vs := [(0, .vs 2 (Zw T_Place.enc x1)), (1, .sl (n + 2) 0 0 (x3).length)]) (ds := [.vs 2 (Zw T_Place.enc x1), .sl (n + 2) 0 0 (x3).length]) tz_27 rfl rfl tp_27 ⟨rfl, rfl, rfl, rfl, trivial⟩ (Yc rfl) rfl) ?_
  refine Xs rfl rfl rfl (Vw (p := .agg [.vs 2 (Zw T_Place.enc x1), .sl (n + 2) 0 0 (x3).length]) (e' := .agg [.vs 2 (Zw T_Place.enc x1), .sl (n + 2) 0 0 (x3).length]) rfl (Vf hn rfl) rfl rfl ts_27 rfl (Yd rfl) rfl (Wa rfl) rfl (Xf hn rfl)) ?_
  refine Yf ?_
  refine Xw ?_
  obtain rfl := Zz hF
  refine fnR ?_
  exact Vn hn [(2, 0), (1, 0)] (by decide) ⟨Vu 1 1 rfl rfl, trivial⟩ ⟨⟨_, rfl, rfl, .same _ _ _ _ (Vq T_Road.enc_lt)⟩, ⟨_, rfl, rfl, .agg _ _ _ _ _ ⟨Vj rfl (.vs _ _), Xx 0 2 rfl rfl, trivial⟩⟩, trivial⟩
 ·rintro _ _ _ _ ⟨he, hw⟩
  refine ⟨_, _, _, hw, ?_⟩
  exact bodyQ_some hn 1 rfl (Wa rfl) he [.agg [.vs 2 (Zw T_Place.enc r.Places), .sl (n + 0) 0 0 (r.Roads).length]] ⟨Vy rfl (Vf hn rfl) rfl ta_27 ts_27 rfl rfl rfl, trivial⟩ ((Vo ⟨.vs _ _, .sl _ _ _ _ (lt_kk rfl), trivial⟩)) ⟨Vq T_Road.enc_lt, trivial⟩ ⟨rfl, rfl⟩

theorem F_law14_RecirculateWider_ok {p0 : List Int} {p1 : Int} {p2 : Int} {r : Bool} (hF : F_law14_RecirculateWider p0 p1 p2 = some r) (low : List AObj) :
    Ze Try.prog 6 [.vs 1 (Zw (Zx .u8) p0), .int .i64 p1, .int .u8 p2] low fun x low' => x = .bool r ∧ low' = low := by
 refine Xj (nt := 145) (rs := [.tmp 6]) Try.func6 rfl rfl (Wa rfl) rfl ?_
 refine Vr (Q' := FnE (fun E' lw lc => Xt E' lw lc [(6, .bool r)] low [])) ?_ ?_
 ·unfold F_law14_RecirculateWider at hF
  refine Vd ?_
  refine Vc ?_
  refine Va (Zh rfl) rfl ?_
  refine Ve ?_
  refine Vd ?_
  refine Vc ?_
  obtain ⟨x1, h2, hF⟩ := Xz hF
  refine Va (Ya rfl) rfl ?_
  refine Vh (vef_callN (r := .tup [.agg [.vs 2 (Zw T_Place.enc x1.1.Mine.Places), .vs 10 (Zw T_Road.enc x1.1.Mine.Roads), .vs 4 (Zw T_Fan.enc x1.1.Fans), .vs 3 (Zw T_Door.enc x1.1.Doors)], .vs 2 (Zw T_Span.enc x1.2.1), .vs 1 (Zw (Zx .i64) x1.2.2)]) (os := []) rfl Try.call8 (F_law14_air_ok h2 _ (Xr rfl rfl))) rfl ?_
  refine Va (rd_mvT rfl) rfl ?_
  refine Va (rd_extract rfl rfl) rfl ?_
  refine Va (rd_extract rfl rfl) rfl ?_
  refine Va (rd_extract rfl rfl) rfl ?_
  refine Vh (Xh rfl rfl tz_31 rfl rfl (Wb _) rfl) rfl ?_
  refine Vh (Vw (p := .agg [.vs 2 (Zw T_Place.enc x1.1.Mine.Places), .vs 10 (Zw T_Road.enc x1.1.Mine.Roads), .vs 4 (Zw T_Fan.enc x1.1.Fans), .vs 3 (Zw T_Door.enc x1.1.Doors)]) (e' := .agg [.vs 2 (Zw T_Place.enc x1.1.Mine.Places), .vs 10 (Zw T_Road.enc x1.1.Mine.Roads), .vs 4 (Zw T_Fan.enc x1.1.Fans), .vs 3 (Zw T_Door.enc x1.1.Doors)]) rfl (Vf rfl rfl) rfl rfl ts_31 rfl (Yd rfl) rfl (Wa rfl) rfl (Xf rfl rfl)) rfl ?_
  refine Va (rd_asV rfl) rfl ?_
  refine Va (rd_asV rfl) rfl ?_
  refine Ve ?_
  refine Vd ?_
  refine Vc ?_
  refine Va (Vb rfl tf_31_0 ts_27 (by decide)) rfl ?_
  refine Va (Vy (ds := [.vs 2 (Zw T_Place.enc x1.1.Mine.Places), .vs 10 (Zw T_Road.enc x1.1.Mine.Roads)]) rfl (Vf rfl rfl) rfl ta_27 ts_27 rfl rfl rfl) rfl ?_
  refine Vh (Xh rfl rfl tz_27 rfl rfl (Wb _) rfl) rfl ?_
  refine Vh (Vw (p := .agg [.vs 2 (Zw T_Place.enc x1.1.Mine.Places), .vs 10 (Zw T_Road.enc x1.1.Mine.Roads)]) (e' := .agg [.vs 2 (Zw T_Place.enc x1.1.Mine.Places), .vs 10 (Zw T_Road.enc x1.1.Mine.Roads)]) rfl (Vf rfl rfl) rfl rfl ts_27 rfl (Yd rfl) rfl (Wa rfl) rfl (Xf rfl rfl)) rfl ?_
  refine Ve ?_
  refine Vd ?_
  refine Vd ?_
  refine Vc ?_
  refine Va (Ya rfl) rfl ?_
  refine Va (Xm (Yn rfl rfl te_23) (congrArg (fun n : Nat => Zx .i64 (n : Int)) (Wd _))) rfl ?_
  refine Va (Zu rfl rfl) rfl ?_
  refine Ve ?_
  refine Xc rfl (fun c3 => ?_) (fun c3 => ?_)
  ·have hF := Yu c3 hF
   refine Vd ?_
   refine Vc ?_
   obtain ⟨x4, h5, hF⟩ := Xz hF
   refine Vh (Xk rfl Try.call14 (F_law14_awake_ok h5 _)) rfl ?_
   refine Va (Zh rfl) rfl ?_
   refine Ve ?_
   refine Xw ?_
   obtain rfl := Zz hF
   refine fnR ?_
   exact Vn rfl [] (by decide) ⟨Vj rfl (.bool _), trivial⟩ trivial
  ·have hF := Yv c3 hF
   refine Xe ?_
   refine Vd ?_
   refine Vc ?_
   obtain ⟨x6, h7, hF⟩ := Xz hF
   refine Va (Ya rfl) rfl ?_
   refine Vh (vef_ap0N (f := T_Span.enc) (ys := x1.2.1) rfl rfl (.inl rfl) rfl (Zs rfl) (Wb _) te_23 ts_44 tb_44 (by decide) tz_44 rfl h7) rfl ?_
   refine Va (rd_asL rfl) rfl ?_
   refine Ve ?_
   refine Vd ?_
   refine Vc ?_
   obtain ⟨x8, h9, hF⟩ := Xz hF
   refine Va (Vk rfl) rfl ?_
   refine Va (Ya rfl) rfl ?_
   refine Va (Xm (Yn rfl rfl te_23) (congrArg (fun n : Nat => Zx .i64 (n : Int)) (Wd _))) rfl ?_
   refine Vh (Xk rfl Try.call17 (F_draw_Mod_ok h9 _)) rfl ?_
   refine Va (Xn rfl) rfl ?_
   refine Ve ?_
   refine Vd ?_
   obtain ⟨x10, h11, hF⟩ := Xz hF
   obtain ⟨x12, h13, hF⟩ := Xz hF
   obtain ⟨x14, h15, hF⟩ := Xz hF
   obtain ⟨x16, h17, hF⟩ := Xz hF
   refine Zd [[], [], [], [], [], [], [4, 5], [4, 5, 6], [4, 5, 6, 7], [], [9], [4, 5, 6, 7, 8, 9, 10], [], [], [12, 13], [12, 13, 14], [12, 13, 14, 15], [], [17], [12, 13, 14, 15, 16, 17, 18], [0, 1, 4, 5, 6, 7, 8, 9, 10, 11, 12, 13, 14, 15, 16], [0, 1, 4, 5, 6, 7, 8, 9, 10, 11, 12, 13, 14, 15, 16, 20], [0, 1, 4, 5, 6, 7, 8, 9, 10, 11, 12, 13, 14, 15, 16, 20, 21], [0, 1, 2, 3, 4, 5, 6, 7, 8, 9, 10, 11, 12, 13, 14, 15, 16, 17, 18, 19, 20, 21, 22], [0, 1, 2, 3, 4, 5, 6, 7, 8, 9, 10, 11, 12, 13, 14, 15, 16, 17, 18, 19, 20, 21, 22, 23], [0, 1, 2, 3, 4, 5, 6, 7, 8, 9, 10, 11, 12, 13, 14, 15, 16, 17, 18, 19, 20, 21, 22, 23, 24]] [false, false, false, false, false, false, false, false, false, false, false, false, false, false, false, false, false, false, false, false, false, false, true, false, false, true] [(low, [⟨31, 4, [.agg [.vs 2 (Zw T_Place.enc x1.1.Mine.Places), .vs 10 (Zw T_Road.enc x1.1.Mine.Roads), .vs 4 (Zw T_Fan.enc x1.1.Fans), .vs 3 (Zw T_Door.enc x1.1.Doors)]], 0⟩, ⟨27, 2, [.agg [.vs 2 (Zw T_Place.enc x1.1.Mine.Places), .vs 10 (Zw T_Road.enc x1.1.Mine.Roads)]], 0⟩, ⟨44, 2, Zw T_Span.enc x6, 0⟩]), (low, [⟨31, 4, [.agg [.vs 2 (Zw T_Place.enc x1.1.Mine.Places), .vs 10 (Zw T_Road.enc x1.1.Mine.Roads), .vs 4 (Zw T_Fan.enc x1.1.Fans), .vs 3 (Zw T_Door.enc x1.1.Doors)]], 0⟩, ⟨27, 2, [.agg [.vs 2 (Zw T_Place.enc x1.1.Mine.Places), .vs 10 (Zw T_Road.enc x1.1.Mine.Roads)]], 0⟩, ⟨44, 2, Zw T_Span.enc (x6.set ((x8).toNat) (T_Span.mk (IntKind.i64.wrap (x10.Low - (IntKind.i64.wrap p2))) x14.High)), 0⟩]), (low, [⟨31, 4, [.agg [.vs 2 (Zw T_Place.enc x1.1.Mine.Places), .vs 10 (Zw T_Road.enc x1.1.Mine.Roads), .vs 4 (Zw T_Fan.enc x1.1.Fans), .vs 3 (Zw T_Door.enc x1.1.Doors)]], 0⟩, ⟨27, 2, [.agg [.vs 2 (Zw T_Place.enc x1.1.Mine.Places), .vs 10 (Zw T_Road.enc x1.1.Mine.Roads)]], 0⟩, ⟨44, 2, Zw T_Span.enc ((x6.set ((x8).toNat) (T_Span.mk (IntKind.i64.wrap (x10.Low - (IntKind.i64.wrap p2))) x14.High)).set ((x8).toNat) (T_Span.mk x16.Low (IntKind.i64.wrap (x12.High + (IntKind.i64.wrap p2))))), 0⟩])] mixed (by kernel_rfl) rfl (Zv (Vt rfl (Vt rfl (Vt rfl Yl)))) rfl _ rfl rfl ?_
   refine Xo rfl rfl (Yz rfl) ?_
   refine Xo rfl rfl (Vk rfl) ?_
   refine Vv _ rfl rfl (Vt (VRd.ntl (Yz rfl)) (Vt (VRd.ntl (Yz rfl)) Yl)) ?_
   refine Vv _ rfl rfl (Vt (VRd.ntl (Vk rfl)) (Vt (VRd.ntl (Vk rfl)) Yl)) ?_
   refine Xo rfl rfl (Yz rfl) ?_
   refine Xo rfl rfl (Vk rfl) ?_
   refine Xo rfl rfl (Zl rfl rfl rfl (Vf rfl rfl) h11 te_23 ts_44) ?_
   refine Xo rfl rfl (Vb rfl tf_44_0 ts_3 (by decide)) ?_
   refine Xo rfl rfl (Zn rfl (Vf rfl rfl) (Yg h11).2 ta_3 rfl) ?_
   refine Xo rfl rfl (Vk rfl) ?_
   refine Xo rfl rfl (rd_conv rfl us_5 ti_3 rfl) ?_
   refine Xo rfl rfl (Zm rfl rfl rfl) ?_
   refine Xo rfl rfl (Yz rfl) ?_
   refine Xo rfl rfl (Vk rfl) ?_
   refine Xo rfl rfl (Zl rfl rfl rfl (Vf rfl rfl) h13 te_23 ts_44) ?_
   refine Xo rfl rfl (Vb rfl tf_44_1 ts_3 (by decide)) ?_
   refine Xo rfl rfl (Zn rfl (Vf rfl rfl) (Yg h13).2 ta_3 rfl) ?_
   refine Vv _ rfl rfl (Vt (VRd.ntl (Vk rfl)) (Vt (VRd.ntl (Vk rfl)) Yl)) ?_
   refine Vv _ rfl rfl (Vt (VRd.ntl (rd_conv rfl us_5 ti_3 rfl)) (Vt (VRd.ntl (rd_conv rfl us_5 ti_3 rfl)) Yl)) ?_
   refine Vv _ rfl rfl (Vt (VRd.ntl (Yt rfl rfl rfl)) (Vt (VRd.ntl (Yt rfl rfl rfl)) Yl)) ?_
   refine Xo rfl rfl (Zl rfl rfl rfl (Vf rfl rfl) h15 te_23 ts_44) ?_
   refine Xo rfl rfl (Vb rfl tf_44_0 ts_3 (by decide)) ?_
   refine Xs rfl rfl rfl (vef_stL (p := .int .i64 (IntKind.i64.wrap (x10.Low - (IntKind.i64.wrap p2)))) (e' := (T_Span.mk (IntKind.i64.wrap (x10.Low - (IntKind.i64.wrap p2))) x14.High)) rfl (Vf rfl rfl) (Yg h15).2 rfl ts_3 rfl (Yd rfl) (Wa rfl) rfl (Xf rfl rfl)) ?_
   refine Xo rfl rfl (Zl rfl (Eq.trans rfl List.length_set.symm) rfl (Vf rfl rfl) h17 te_23 ts_44) ?_
   refine Xo rfl rfl (Vb rfl tf_44_1 ts_3 (by decide)) ?_
   refine Xs rfl rfl rfl (vef_stL (p := .int .i64 (IntKind.i64.wrap (x12.High + (IntKind.i64.wrap p2)))) (e' := (T_Span.mk x16.Low (IntKind.i64.wrap (x12.High + (IntKind.i64.wrap p2))))) rfl (Vf rfl rfl) (Yg h17).2 rfl ts_3 rfl (Yd rfl) (Wa rfl) rfl (Xf rfl rfl)) ?_
   refine Yf ?_
   refine Vd ?_
   refine Vc ?_
   obtain ⟨x18, h19, hF⟩ := Xz hF
   refine Va (Vy (ds := [.vs 2 (Zw T_Place.enc x1.1.Mine.Places), .vs 10 (Zw T_Road.enc x1.1.Mine.Roads)]) rfl (Vf rfl rfl) rfl ta_27 ts_27 rfl rfl rfl) rfl ?_
   refine Vh (vef_callN (r := .agg [.vs 2 (Zw T_Place.enc x18.Places), .sl (low.length + 3) 0 0 (x18.Roads).length]) (os := [⟨46, 10, Zw T_Road.enc x18.Roads, 0⟩]) rfl Try.call18 (F_ref01_Copy_ok h19 _ (Xr rfl rfl))) rfl ?_
   refine Vh (Xh rfl rfl tz_27 rfl rfl (Wb _) rfl) rfl ?_
   refine Vh (Vw (p := .agg [.vs 2 (Zw T_Place.enc x18.Places), .sl (low.length + 3) 0 0 (x18.Roads).length]) (e' := .agg [.vs 2 (Zw T_Place.enc x18.Places), .sl (low.length + 3) 0 0 (x18.Roads).length]) rfl (Vf rfl rfl) rfl rfl ts_27 rfl (Yd rfl) rfl (Wa rfl) rfl (Xf rfl rfl)) rfl ?_
   refine Ve ?_
   refine Vd ?_
   refine Vc ?_
   obtain ⟨x20, h21, hF⟩ := Xz hF
   refine Va (Vb rfl tf_27_1 ts_25 (by decide)) rfl ?_
   refine Va (Vi rfl (Vf rfl rfl) rfl ta_25 rfl) rfl ?_
   refine Va (Vk rfl) rfl ?_
   refine Va (Zl rfl rfl rfl (Vf rfl rfl) h21 te_25 ts_46) rfl ?_
   refine Va (Vb rfl tf_46_5 ts_4 (by decide)) rfl ?_
   refine Vh (vef_stL (p := .bool true) (e' := (T_Road.mk x20.From x20.To x20.Length x20.Area x20.Walk true x20.Rest x20.Lift)) rfl (Vf rfl rfl) (Yg h21).2 rfl ts_4 rfl (Yd rfl) (Wa rfl) rfl (Xf rfl rfl)) rfl ?_
   refine Ve ?_
   refine Vd ?_
   refine Ye (Yj (E' := [(8, .vs 2 (Zw T_Span.enc x1.2.1)), (10, .ptr (low.length + 1) 0 0 0), (11, .vs 2 (Zw T_Span.enc ((x6.set ((x8).toNat) (T_Span.mk (IntKind.i64.wrap (x10.Low - (IntKind.i64.wrap p2))) x14.High)).set ((x8).toNat) (T_Span.mk x16.Low (IntKind.i64.wrap (x12.High + (IntKind.i64.wrap p2))))))), (12, .int .i64 x8), (13, .ptr (low.length + 4) 0 0 0)]) (loc1 := [⟨31, 4, [.agg [.vs 2 (Zw T_Place.enc x1.1.Mine.Places), .vs 10 (Zw T_Road.enc x1.1.Mine.Roads), .vs 4 (Zw T_Fan.enc x1.1.Fans), .vs 3 (Zw T_Door.enc x1.1.Doors)]], 0⟩, ⟨27, 2, [.agg [.vs 2 (Zw T_Place.enc x1.1.Mine.Places), .vs 10 (Zw T_Road.enc x1.1.Mine.Roads)]], 0⟩, ⟨44, 2, [], 0 + 1⟩, ⟨46, 10, Zw T_Road.enc (x18.Roads.set ((x8).toNat) (T_Road.mk x20.From x20.To x20.Length x20.Area x20.Walk true x20.Rest x20.Lift)), 0⟩, ⟨27, 2, [.agg [.vs 2 (Zw T_Place.enc x18.Places), .sl (low.length + 3) 0 0 (x18.Roads).length]], 0⟩]) rfl 2 rfl (Yi T_Span.enc_lt) ⟨Vs rfl, Vs rfl, cv_sl rfl rfl rfl (Yy (Eq.trans (Eq.trans rfl List.length_set.symm) List.length_set.symm)), Vs rfl, Vs rfl, trivial⟩ ⟨.refl _, .refl _, .refl _, .refl _, .refl _, trivial⟩) ?_
   refine Ye (Yj (E' := [(8, .vs 2 (Zw T_Span.enc x1.2.1)), (10, .ptr (low.length + 1) 0 0 0), (11, .vs 2 (Zw T_Span.enc ((x6.set ((x8).toNat) (T_Span.mk (IntKind.i64.wrap (x10.Low - (IntKind.i64.wrap p2))) x14.High)).set ((x8).toNat) (T_Span.mk x16.Low (IntKind.i64.wrap (x12.High + (IntKind.i64.wrap p2))))))), (12, .int .i64 x8), (13, .ptr (low.length + 4) 0 0 0)]) (loc1 := [⟨31, 4, [.agg [.vs 2 (Zw T_Place.enc x1.1.Mine.Places), .vs 10 (Zw T_Road.enc x1.1.Mine.Roads), .vs 4 (Zw T_Fan.enc x1.1.Fans), .vs 3 (Zw T_Door.enc x1.1.Doors)]], 0⟩, ⟨27, 2, [.agg [.vs 2 (Zw T_Place.enc x1.1.Mine.Places), .vs 10 (Zw T_Road.enc x1.1.Mine.Roads)]], 0⟩, ⟨44, 2, [], 0 + 1⟩, ⟨46, 10, [], 0 + 1⟩, ⟨27, 2, [.agg [.vs 2 (Zw T_Place.enc x18.Places), .vs 10 (Zw T_Road.enc (x18.Roads.set ((x8).toNat) (T_Road.mk x20.From x20.To x20.Length x20.Area x20.Walk true x20.Rest x20.Lift)))]], 0⟩]) rfl 3 rfl (Yi T_Road.enc_lt) ⟨Vs rfl, Vs rfl, Vs rfl, Vs rfl, Vs rfl, trivial⟩ ⟨.refl _, .refl _, .refl _, .refl _, cvo_agg ⟨Vs rfl, cv_sl rfl rfl rfl (Yy (Eq.trans rfl List.length_set.symm)), trivial⟩, trivial⟩) ?_
   obtain ⟨x22, h23, hF⟩ := Xz hF
   obtain ⟨x24, h25, hF⟩ := Xz hF
   obtain ⟨x26, h27, hF⟩ := Xz hF
   refine Zk [[], [], [0, 1], [], [], [0, 1, 2, 3, 4], [], [], [0, 1, 2, 3, 4, 5, 6, 7], [0, 1, 2, 3, 4, 5, 6, 7, 8], [0, 1, 2, 3, 4, 5, 6, 7, 8, 9], [0, 1, 2, 3, 4, 5, 6, 7, 8, 9, 10]] mixed (by kernel_rfl) rfl ?_
   refine Xo rfl rfl (Vy (ds := [.vs 2 (Zw T_Place.enc x1.1.Mine.Places), .vs 10 (Zw T_Road.enc x1.1.Mine.Roads)]) rfl (Vf rfl rfl) rfl ta_27 ts_27 rfl rfl rfl) ?_
   refine Xo rfl rfl (Ya rfl) ?_
   refine dn1 rfl rfl (Zt (Xk rfl Try.call12 (F_recirculate_Circles_ok h23 _))) ?_
   refine Xo rfl rfl (Vy (ds := [.vs 2 (Zw T_Place.enc x1.1.Mine.Places), .vs 10 (Zw T_Road.enc x1.1.Mine.Roads)]) rfl (Vf rfl rfl) rfl ta_27 ts_27 rfl rfl rfl) ?_
   refine Xo rfl rfl (Ya rfl) ?_
   refine dn1 rfl rfl (Zt (Xk rfl Try.call12 (F_recirculate_Circles_ok h25 _))) ?_
   refine Xo rfl rfl (Vy (ds := [.vs 2 (Zw T_Place.enc x18.Places), .vs 10 (Zw T_Road.enc (x18.Roads.set ((x8).toNat) (T_Road.mk x20.From x20.To x20.Length x20.Area x20.Walk true x20.Rest x20.Lift)))]) rfl (Vf rfl rfl) rfl ta_27 ts_27 rfl rfl rfl) ?_
   refine Xo rfl rfl (Ya rfl) ?_
   refine dn1 rfl rfl (Zt (Xk rfl Try.call12 (F_recirculate_Circles_ok h27 _))) ?_
   refine Xo rfl rfl (rd_asV rfl) ?_
   refine Xo rfl rfl (rd_asV rfl) ?_
   refine Xo rfl rfl (rd_asV rfl) ?_
   refine Yf ?_
   refine Vd ?_
   refine Vd ?_
   refine Vc ?_
   refine Va (Ya rfl) rfl ?_
   refine Va (Xm (Yn rfl rfl te_32) (congrArg (fun n : Nat => Zx .i64 (n : Int)) (Wd _))) rfl ?_
   refine Va (Vk rfl) rfl ?_
   refine Ve ?_
   refine Vz ?_
   obtain ⟨o29, ho29, hF⟩ := Xz hF
   refine Vr (Yq (F_law14_RecirculateWider_L1 x22 x24) (fun s28 E' lw lc => Xt E' lw lc [(8, .vs 2 (Zw T_Span.enc x1.2.1)), (10, .ptr (low.length + 0) 0 0 0), (11, .vs 2 (Zw T_Span.enc ((x6.set ((x8).toNat) (T_Span.mk (IntKind.i64.wrap (x10.Low - (IntKind.i64.wrap p2))) x14.High)).set ((x8).toNat) (T_Span.mk x16.Low (IntKind.i64.wrap (x12.High + (IntKind.i64.wrap p2))))))), (12, .int .i64 x8), (14, .vs 1 (Zw (Zx .i64) x22)), (15, .vs 1 (Zw (Zx .i64) x24)), (16, .vs 1 (Zw (Zx .i64) x26)), (81, .int .i64 ((x22).length : Int)), (82, .int .i64 s28)] low [⟨27, 2, [.agg [.vs 2 (Zw T_Place.enc x1.1.Mine.Places), .vs 10 (Zw T_Road.enc x1.1.Mine.Roads)]], 0⟩]) (Sum.elim (fun j30 => OnlyE .ret (fun E' lw lc => Xt E' lw lc [(6, .bool false)] low [])) (fun j31 => OnlyE (.exit 0) (fun E' lw lc => Xt E' lw lc [(8, .vs 2 (Zw T_Span.enc x1.2.1)), (10, .ptr (low.length + 0) 0 0 0), (11, .vs 2 (Zw T_Span.enc ((x6.set ((x8).toNat) (T_Span.mk (IntKind.i64.wrap (x10.Low - (IntKind.i64.wrap p2))) x14.High)).set ((x8).toNat) (T_Span.mk x16.Low (IntKind.i64.wrap (x12.High + (IntKind.i64.wrap p2))))))), (12, .int .i64 x8), (14, .vs 1 (Zw (Zx .i64) x22)), (16, .vs 1 (Zw (Zx .i64) x26))] low [⟨27, 2, [.agg [.vs 2 (Zw T_Place.enc x1.1.Mine.Places), .vs 10 (Zw T_Road.enc x1.1.Mine.Roads)]], 0⟩]))) ho29 ?_ (by rintro (_|_) _ _ _ ⟨h, _⟩ <;> cases h) ?_) ?_
   ·exact Vn rfl [(1, 0)] (by decide) ⟨Vj rfl (.vs _ _), Vu 0 1 rfl rfl, Vj rfl (.vs _ _), Vj rfl (.int _ _), Vj rfl (.vs _ _), Vj rfl (.vs _ _), Vj rfl (.vs _ _), Vj rfl (.int _ _), Vj rfl (.int _ _), trivial⟩ ⟨⟨_, rfl, rfl, .same _ _ _ _ (Vp ⟨Vo ⟨.vs _ _, .vs _ _, trivial⟩, trivial⟩)⟩, trivial⟩
   ·rintro s28 os28 _ _ _ hF hw
    unfold F_law14_RecirculateWider_L1 at hF
    refine Ye hw ?_
    refine Vd ?_
    refine Vc ?_
    refine Va (Zc rfl rfl) rfl ?_
    refine Ve ?_
    refine Vd ?_
    refine Xc rfl (fun c32 => ?_) (fun c32 => ?_)
    ·have hF := Yu c32 hF
     refine Xe ?_
     refine Vd ?_
     refine Vz ?_
     refine Vd ?_
     refine Vc ?_
     refine Va (Vk rfl) rfl ?_
     refine Va (Xn rfl) rfl ?_
     refine Ve ?_
     refine Vd ?_
     refine Vc ?_
     obtain ⟨x33, h34, hF⟩ := Xz hF
     obtain ⟨x35, h36, hF⟩ := Xz hF
     refine Va (Ya rfl) rfl ?_
     refine Va (Ya rfl) rfl ?_
     refine Va (Vk rfl) rfl ?_
     refine Va (Xm (Yb rfl rfl h34 te_32 ts_3) (v' := .vptr [.int .i64 x33] 0) rfl) rfl ?_
     refine Va (Xq rfl ta_3 rfl) rfl ?_
     refine Vh (Xk rfl Try.call16 (F_ref01_Has_ok h36 _)) rfl ?_
     refine Va (rd_not rfl) rfl ?_
     refine Ve ?_
     refine Xc rfl (fun c37 => ?_) (fun c37 => ?_)
     ·have hF := Yu c37 hF
      refine Vd ?_
      refine Vc ?_
      refine Va (Zh rfl) rfl ?_
      refine Ve ?_
      refine Xw ?_
      obtain rfl := Zz hF
      refine Xg ?_
      exact Vn rfl [] (by decide) ⟨Vj rfl (.bool _), trivial⟩ trivial
     ·have hF := Yv c37 hF
      refine Xe ?_
      refine Vc ?_
      refine Va (Yt rfl rfl rfl) rfl ?_
      refine Va (Vk rfl) rfl ?_
      refine Ve ?_
      obtain rfl := Zz hF
      refine Xg ?_
      exact Vl ⟨rfl, rfl, rfl, rfl, rfl, rfl, rfl, rfl, rfl, trivial⟩
    ·have hF := Yv c32 hF
     refine Yx ?_
     obtain rfl := Zz hF
     refine Xg ?_
     exact Vl ⟨rfl, rfl, rfl, rfl, rfl, rfl, trivial⟩
   ·rcases o29 with j30 | j31
    ·replace hF := elimL hF
     rintro _ _ _ _ ⟨rfl, hw⟩
     refine ⟨_, _, _, hw, ?_⟩
     obtain rfl := Zz hF
     refine fnR ?_
     exact Vl ⟨rfl, trivial⟩
    ·replace hF := elimR hF
     rintro _ _ _ _ ⟨rfl, hw⟩
     refine ⟨_, _, _, hw, ?_⟩
     refine Vd ?_
     refine Vd ?_
     refine Vc ?_
     refine Va (Ya rfl) rfl ?_
     refine Va (Xm (Yn rfl rfl te_32) (congrArg (fun n : Nat => Zx .i64 (n : Int)) (Wd _))) rfl ?_
     refine Va (Vk rfl) rfl ?_
     refine Ve ?_
     refine Vz ?_
     obtain ⟨o39, ho39, hF⟩ := Xz hF
     refine Vr (Yq (F_law14_RecirculateWider_L2 x8 x22 x26) (fun s38 E' lw lc => Xt E' lw lc [(8, .vs 2 (Zw T_Span.enc x1.2.1)), (10, .ptr (low.length + 0) 0 0 0), (11, .vs 2 (Zw T_Span.enc ((x6.set ((x8).toNat) (T_Span.mk (IntKind.i64.wrap (x10.Low - (IntKind.i64.wrap p2))) x14.High)).set ((x8).toNat) (T_Span.mk x16.Low (IntKind.i64.wrap (x12.High + (IntKind.i64.wrap p2))))))), (12, .int .i64 x8), (14, .vs 1 (Zw (Zx .i64) x22)), (16, .vs 1 (Zw (Zx .i64) x26)), (94, .int .i64 ((x26).length : Int)), (95, .int .i64 s38)] low [⟨27, 2, [.agg [.vs 2 (Zw T_Place.enc x1.1.Mine.Places), .vs 10 (Zw T_Road.enc x1.1.Mine.Roads)]], 0⟩]) (Sum.elim (fun j40 => OnlyE .ret (fun E' lw lc => Xt E' lw lc [(6, .bool false)] low [])) (fun j41 => OnlyE (.exit 2) (fun E' lw lc => Xt E' lw lc [(8, .vs 2 (Zw T_Span.enc x1.2.1)), (10, .ptr (low.length + 0) 0 0 0), (11, .vs 2 (Zw T_Span.enc ((x6.set ((x8).toNat) (T_Span.mk (IntKind.i64.wrap (x10.Low - (IntKind.i64.wrap p2))) x14.High)).set ((x8).toNat) (T_Span.mk x16.Low (IntKind.i64.wrap (x12.High + (IntKind.i64.wrap p2)))))))] low [⟨27, 2, [.agg [.vs 2 (Zw T_Place.enc x1.1.Mine.Places), .vs 10 (Zw T_Road.enc x1.1.Mine.Roads)]], 0⟩]))) ho39 ?_ (by rintro (_|_) _ _ _ ⟨h, _⟩ <;> cases h) ?_) ?_
     ·exact Vl ⟨rfl, rfl, rfl, rfl, rfl, rfl, rfl, rfl, trivial⟩
     ·rintro s38 os38 _ _ _ hF hw
      unfold F_law14_RecirculateWider_L2 at hF
      refine Ye hw ?_
      refine Vd ?_
      refine Vc ?_
      refine Va (Zc rfl rfl) rfl ?_
      refine Ve ?_
      refine Vd ?_
      refine Xc rfl (fun c42 => ?_) (fun c42 => ?_)
      ·have hF := Yu c42 hF
       refine Xe ?_
       refine Vd ?_
       refine Vz ?_
       refine Vd ?_
       refine Vc ?_
       refine Va (Vk rfl) rfl ?_
       refine Va (Xn rfl) rfl ?_
       refine Ve ?_
       refine Vd ?_
       obtain ⟨o43, ho43, hF⟩ := Xz hF
       refine Vr (Q' := (fun o43 => OnlyE .normal (fun E' lw lc => Xt E' lw lc [(8, .vs 2 (Zw T_Span.enc x1.2.1)), (10, .ptr (low.length + 0) 0 0 0), (11, .vs 2 (Zw T_Span.enc ((x6.set ((x8).toNat) (T_Span.mk (IntKind.i64.wrap (x10.Low - (IntKind.i64.wrap p2))) x14.High)).set ((x8).toNat) (T_Span.mk x16.Low (IntKind.i64.wrap (x12.High + (IntKind.i64.wrap p2))))))), (12, .int .i64 x8), (14, .vs 1 (Zw (Zx .i64) x22)), (16, .vs 1 (Zw (Zx .i64) x26)), (94, .int .i64 ((x26).length : Int)), (95, .int .i64 s38), (112, .bool o43)] low [⟨27, 2, [.agg [.vs 2 (Zw T_Place.enc x1.1.Mine.Places), .vs 10 (Zw T_Road.enc x1.1.Mine.Roads)]], 0⟩])) o43) ?_ ?_
       ·replace hF := ho43
        refine Vc ?_
        obtain ⟨x44, h45, hF⟩ := Xz hF
        obtain ⟨x46, h47, hF⟩ := Xz hF
        rcases Wc (!x46) with c48 | c48
        ·have hF := Yu c48 hF
         refine Va (Ya rfl) rfl ?_
         refine Va (Ya rfl) rfl ?_
         refine Va (Vk rfl) rfl ?_
         refine Va (Xm (Yb rfl rfl h45 te_32 ts_3) (v' := .vptr [.int .i64 x44] 0) rfl) rfl ?_
         refine Va (Xq rfl ta_3 rfl) rfl ?_
         refine Vh (Xk rfl Try.call16 (F_ref01_Has_ok h47 _)) rfl ?_
         refine Va (rd_not rfl) rfl ?_
         refine Va (Xd rfl) rfl ?_
         refine Vg rfl rfl (neT c48) rfl ?_
         refine Vg rfl rfl (neT c48) rfl ?_
         refine Vg rfl rfl (neT c48) rfl ?_
         refine Vg rfl rfl (neT c48) rfl ?_
         refine Vg rfl rfl (neT c48) rfl ?_
         refine Vg rfl rfl (neT c48) rfl ?_
         refine Va (Xu (congrArg Zy c48) rfl) rfl ?_
         refine Ve ?_
         obtain rfl := Zz hF
         refine Xg ?_
         exact Vl ⟨rfl, rfl, rfl, rfl, rfl, rfl, rfl, rfl, rfl, trivial⟩
        ·have hF := Yv c48 hF
         obtain ⟨x49, h50, hF⟩ := Xz hF
         refine Va (Ya rfl) rfl ?_
         refine Va (Ya rfl) rfl ?_
         refine Va (Vk rfl) rfl ?_
         refine Va (Xm (Yb rfl rfl h45 te_32 ts_3) (v' := .vptr [.int .i64 x44] 0) rfl) rfl ?_
         refine Va (Xq rfl ta_3 rfl) rfl ?_
         refine Vh (Xk rfl Try.call16 (F_ref01_Has_ok h47 _)) rfl ?_
         refine Va (rd_not rfl) rfl ?_
         refine Va (Xd rfl) rfl ?_
         refine Ys rfl rfl c48 ?_
         refine Va (Ya rfl) rfl ?_
         refine Ys rfl rfl c48 ?_
         refine Va (Vk rfl) rfl ?_
         refine Ys rfl rfl c48 ?_
         refine Va (Xm (Yb rfl rfl h50 te_32 ts_3) (v' := .vptr [.int .i64 x49] 0) rfl) rfl ?_
         refine Ys rfl rfl c48 ?_
         refine Va (Xq rfl ta_3 rfl) rfl ?_
         refine Ys rfl rfl c48 ?_
         refine Va (Vk rfl) rfl ?_
         refine Ys rfl rfl c48 ?_
         refine Va (Zu rfl rfl) rfl ?_
         refine Va (Xv (congrArg Zy c48) rfl) rfl ?_
         refine Ve ?_
         obtain rfl := Zz hF
         refine Xg ?_
         exact Vl ⟨rfl, rfl, rfl, rfl, rfl, rfl, rfl, rfl, rfl, trivial⟩
       ·rintro _ _ _ _ ⟨rfl, hw⟩
        refine ⟨_, _, _, hw, ?_⟩
        refine Xc rfl (fun c51 => ?_) (fun c51 => ?_)
        ·have hF := Yu c51 hF
         refine Vd ?_
         refine Vc ?_
         refine Va (Zh rfl) rfl ?_
         refine Ve ?_
         refine Xw ?_
         obtain rfl := Zz hF
         refine Xg ?_
         exact Vn rfl [] (by decide) ⟨Vj rfl (.bool _), trivial⟩ trivial
        ·have hF := Yv c51 hF
         refine Xe ?_
         refine Vc ?_
         refine Va (Yt rfl rfl rfl) rfl ?_
         refine Va (Vk rfl) rfl ?_
         refine Ve ?_
         obtain rfl := Zz hF
         refine Xg ?_
         exact Vl ⟨rfl, rfl, rfl, rfl, rfl, rfl, rfl, rfl, trivial⟩
      ·have hF := Yv c42 hF
       refine Yx ?_
       obtain rfl := Zz hF
       refine Xg ?_
       exact Vl ⟨rfl, rfl, rfl, trivial⟩
     ·rcases o39 with j40 | j41
      ·replace hF := elimL hF
       rintro _ _ _ _ ⟨rfl, hw⟩
       refine ⟨_, _, _, hw, ?_⟩
       obtain rfl := Zz hF
       refine fnR ?_
       exact Vl ⟨rfl, trivial⟩
      ·replace hF := elimR hF
       rintro _ _ _ _ ⟨rfl, hw⟩
       refine ⟨_, _, _, hw, ?_⟩
       refine Vd ?_
       obtain ⟨x52, h53, hF⟩ := Xz hF
       obtain ⟨x54, h55, hF⟩ := Xz hF
       refine Zk [[], [], [0, 1], [], [], [0, 1, 2, 3, 4], [0, 1, 2, 3, 4, 5], [0, 1, 2, 3, 4, 5, 6]] mixed (by kernel_rfl) rfl ?_
       refine Xo rfl rfl (Vy (ds := [.vs 2 (Zw T_Place.enc x1.1.Mine.Places), .vs 10 (Zw T_Road.enc x1.1.Mine.Roads)]) rfl (Vf rfl rfl) rfl ta_27 ts_27 rfl rfl rfl) ?_
       refine Xo rfl rfl (Ya rfl) ?_
       refine dn1 rfl rfl (Zt (Xk rfl Try.call19 (F_recirculate_Mixed_ok h53 _))) ?_
       refine Xo rfl rfl (Vy (ds := [.vs 2 (Zw T_Place.enc x1.1.Mine.Places), .vs 10 (Zw T_Road.enc x1.1.Mine.Roads)]) rfl (Vf rfl rfl) rfl ta_27 ts_27 rfl rfl rfl) ?_
       refine Xo rfl rfl (Ya rfl) ?_
       refine dn1 rfl rfl (Zt (Xk rfl Try.call19 (F_recirculate_Mixed_ok h55 _))) ?_
       refine Xo rfl rfl (rd_asV rfl) ?_
       refine Xo rfl rfl (rd_asV rfl) ?_
       refine Yf ?_
       refine Vd ?_
       refine Vd ?_
       refine Vc ?_
       refine Va (Ya rfl) rfl ?_
       refine Va (Xm (Yn rfl rfl te_32) (congrArg (fun n : Nat => Zx .i64 (n : Int)) (Wd _))) rfl ?_
       refine Va (Vk rfl) rfl ?_
       refine Ve ?_
       refine Vz ?_
       obtain ⟨o57, ho57, hF⟩ := Xz hF
       refine Vr (Yq (F_law14_RecirculateWider_L3 x1 x52 x54) (fun s56 E' lw lc => Xt E' lw lc [(10, .ptr (low.length + 0) 0 0 0), (19, .vs 1 (Zw (Zx .i64) x52)), (20, .vs 1 (Zw (Zx .i64) x54)), (121, .int .i64 ((x52).length : Int)), (122, .int .i64 s56)] low [⟨27, 2, [.agg [.vs 2 (Zw T_Place.enc x1.1.Mine.Places), .vs 10 (Zw T_Road.enc x1.1.Mine.Roads)]], 0⟩]) (Sum.elim (fun j58 => OnlyE .ret (fun E' lw lc => Xt E' lw lc [(6, .bool false)] low [])) (fun j59 => OnlyE (.exit 4) (fun E' lw lc => Xt E' lw lc [] low []))) ho57 ?_ (by rintro (_|_) _ _ _ ⟨h, _⟩ <;> cases h) ?_) ?_
       ·exact Vl ⟨rfl, rfl, rfl, rfl, rfl, trivial⟩
       ·rintro s56 os56 _ _ _ hF hw
        unfold F_law14_RecirculateWider_L3 at hF
        refine Ye hw ?_
        refine Vd ?_
        refine Vc ?_
        refine Va (Zc rfl rfl) rfl ?_
        refine Ve ?_
        refine Vd ?_
        refine Xc rfl (fun c60 => ?_) (fun c60 => ?_)
        ·have hF := Yu c60 hF
         refine Xe ?_
         refine Vd ?_
         refine Vz ?_
         refine Vd ?_
         refine Vc ?_
         refine Va (Vk rfl) rfl ?_
         refine Va (Xn rfl) rfl ?_
         refine Ve ?_
         refine Vd ?_
         obtain ⟨o61, ho61, hF⟩ := Xz hF
         refine Vr (Q' := (fun o61 => OnlyE .normal (fun E' lw lc => Xt E' lw lc [(10, .ptr (low.length + 0) 0 0 0), (19, .vs 1 (Zw (Zx .i64) x52)), (20, .vs 1 (Zw (Zx .i64) x54)), (121, .int .i64 ((x52).length : Int)), (122, .int .i64 s56), (142, .bool o61)] low [⟨27, 2, [.agg [.vs 2 (Zw T_Place.enc x1.1.Mine.Places), .vs 10 (Zw T_Road.enc x1.1.Mine.Roads)]], 0⟩])) o61) ?_ ?_
         ·replace hF := ho61
          obtain ⟨x62, h63, hF⟩ := Xz hF
          obtain ⟨x64, h65, hF⟩ := Xz hF
          rcases Wc (!x64) with c66 | c66
          ·have hF := Yu c66 hF
           refine Zk [[], [], [], [1, 2], [1, 2, 3], [0, 1, 2, 3, 4], [0, 1, 2, 3, 4, 5], [0, 1, 2, 3, 4, 5, 6], [0, 1, 2, 3, 4, 5, 6, 7], [0, 1, 2, 3, 4, 5, 6, 7, 8], [0, 1, 2, 3, 4, 5, 6, 7], [0, 1, 2, 3, 4, 5, 6, 7], [0, 1, 2, 3, 4, 5, 6, 7, 10, 11], [0, 1, 2, 3, 4, 5, 6, 7, 10, 11, 12], [0, 1, 2, 3, 4, 5, 6, 7, 8, 9, 10, 11, 12, 13], [0, 1, 2, 3, 4, 5, 6, 7, 8, 9, 10, 11, 12, 13, 14], [0, 1, 2, 3, 4, 5, 6, 7, 8, 9, 10, 11, 12, 13, 14, 15], [0, 1, 2, 3, 4, 5, 6, 7, 8, 9, 10, 11, 12, 13, 14, 15, 16]] mixed (by kernel_rfl) rfl ?_
           refine Xo rfl rfl (Ya rfl) ?_
           refine Xo rfl rfl (Ya rfl) ?_
           refine Xo rfl rfl (Vk rfl) ?_
           refine Xo rfl rfl (Xm (Yb rfl rfl h63 te_32 ts_3) (v' := .vptr [.int .i64 x62] 0) rfl) ?_
           refine Xo rfl rfl (Xq rfl ta_3 rfl) ?_
           refine dn1 rfl rfl (Zt (Xk rfl Try.call16 (F_ref01_Has_ok h65 _))) ?_
           refine Xo rfl rfl (rd_not rfl) ?_
           refine Xo rfl rfl (Xd rfl) ?_
           refine Yh rfl rfl rfl (neT c66) ?_
           refine Yh rfl rfl rfl (neT c66) ?_
           refine Yh rfl rfl rfl (neT c66) ?_
           refine Yh rfl rfl rfl (neT c66) ?_
           refine Yh rfl rfl rfl (neT c66) ?_
           refine Yh rfl rfl rfl (neT c66) ?_
           refine Yh rfl rfl rfl (neT c66) ?_
           refine Yh rfl rfl rfl (neT c66) ?_
           refine Yh rfl rfl rfl (neT c66) ?_
           refine Xo rfl rfl (Xu (congrArg Zy c66) rfl) ?_
           refine Yf ?_
           obtain rfl := Zz hF
           refine Xg ?_
           exact Vl ⟨rfl, rfl, rfl, rfl, rfl, rfl, trivial⟩
          ·have hF := Yv c66 hF
           obtain ⟨x67, h68, hF⟩ := Xz hF
           obtain ⟨x69, h70, hF⟩ := Xz hF
           refine Zk [[], [], [], [1, 2], [1, 2, 3], [0, 1, 2, 3, 4], [0, 1, 2, 3, 4, 5], [0, 1, 2, 3, 4, 5, 6], [0, 1, 2, 3, 4, 5, 6, 7], [0, 1, 2, 3, 4, 5, 6, 7, 8], [0, 1, 2, 3, 4, 5, 6, 7], [0, 1, 2, 3, 4, 5, 6, 7], [0, 1, 2, 3, 4, 5, 6, 7, 10, 11], [0, 1, 2, 3, 4, 5, 6, 7, 10, 11, 12], [0, 1, 2, 3, 4, 5, 6, 7, 8, 9, 10, 11, 12, 13], [0, 1, 2, 3, 4, 5, 6, 7, 8, 9, 10, 11, 12, 13, 14], [0, 1, 2, 3, 4, 5, 6, 7, 8, 9, 10, 11, 12, 13, 14, 15], [0, 1, 2, 3, 4, 5, 6, 7, 8, 9, 10, 11, 12, 13, 14, 15, 16]] mixed (by kernel_rfl) rfl ?_
           refine Xo rfl rfl (Ya rfl) ?_
           refine Xo rfl rfl (Ya rfl) ?_
           refine Xo rfl rfl (Vk rfl) ?_
           refine Xo rfl rfl (Xm (Yb rfl rfl h63 te_32 ts_3) (v' := .vptr [.int .i64 x62] 0) rfl) ?_
           refine Xo rfl rfl (Xq rfl ta_3 rfl) ?_
           refine dn1 rfl rfl (Zt (Xk rfl Try.call16 (F_ref01_Has_ok h65 _))) ?_
           refine Xo rfl rfl (rd_not rfl) ?_
           refine Xo rfl rfl (Xd rfl) ?_
           refine dt1 rfl rfl rfl rfl c66 (Vb rfl tf_27_0 ts_24 (by decide)) ?_
           refine dt1 rfl rfl rfl rfl c66 (Vi rfl (Vf rfl rfl) rfl ta_24 rfl) ?_
           refine dt1 rfl rfl rfl rfl c66 (Ya rfl) ?_
           refine dt1 rfl rfl rfl rfl c66 (Vk rfl) ?_
           refine dt1 rfl rfl rfl rfl c66 (Xm (Yb rfl rfl h68 te_32 ts_3) (v' := .vptr [.int .i64 x67] 0) rfl) ?_
           refine dt1 rfl rfl rfl rfl c66 (Xq rfl ta_3 rfl) ?_
           refine dt1 rfl rfl rfl rfl c66 (Xm (Yb rfl rfl h70 te_24 ts_48) (v' := .vptr [.int .i64 x69.Height, .bool x69.Surface] 0) rfl) ?_
           refine dt1 rfl rfl rfl rfl c66 (Zj rfl tf_48_1 ts_4 (by decide)) ?_
           refine dt1 rfl rfl rfl rfl c66 (Xq rfl ta_4 rfl) ?_
           refine Xo rfl rfl (Xv (congrArg Zy c66) rfl) ?_
           refine Yf ?_
           obtain rfl := Zz hF
           refine Xg ?_
           exact Vl ⟨rfl, rfl, rfl, rfl, rfl, rfl, trivial⟩
         ·rintro _ _ _ _ ⟨rfl, hw⟩
          refine ⟨_, _, _, hw, ?_⟩
          refine Xc rfl (fun c71 => ?_) (fun c71 => ?_)
          ·have hF := Yu c71 hF
           refine Vd ?_
           refine Vc ?_
           refine Va (Zh rfl) rfl ?_
           refine Ve ?_
           refine Xw ?_
           obtain rfl := Zz hF
           refine Xg ?_
           exact Vn rfl [] (by decide) ⟨Vj rfl (.bool _), trivial⟩ trivial
          ·have hF := Yv c71 hF
           refine Xe ?_
           refine Vc ?_
           refine Va (Yt rfl rfl rfl) rfl ?_
           refine Va (Vk rfl) rfl ?_
           refine Ve ?_
           obtain rfl := Zz hF
           refine Xg ?_
           exact Vl ⟨rfl, rfl, rfl, rfl, rfl, trivial⟩
        ·have hF := Yv c60 hF
         refine Yx ?_
         obtain rfl := Zz hF
         refine Xg ?_
         exact Vn rfl [] (by decide) trivial trivial
       ·rcases o57 with j58 | j59
        ·replace hF := elimL hF
         rintro _ _ _ _ ⟨rfl, hw⟩
         refine ⟨_, _, _, hw, ?_⟩
         obtain rfl := Zz hF
         refine fnR ?_
         exact Vl ⟨rfl, trivial⟩
        ·replace hF := elimR hF
         rintro _ _ _ _ ⟨rfl, hw⟩
         refine ⟨_, _, _, hw, ?_⟩
         refine Vd ?_
         refine Vc ?_
         obtain ⟨x72, h73, hF⟩ := Xz hF
         refine Vh (Xk rfl Try.call14 (F_law14_awake_ok h73 _)) rfl ?_
         refine Va (Zh rfl) rfl ?_
         refine Ve ?_
         refine Xw ?_
         obtain rfl := Zz hF
         refine fnR ?_
         exact Vl ⟨rfl, trivial⟩
 ·rintro _ _ _ _ ⟨he, hw⟩
  refine ⟨_, _, _, hw, ?_⟩
  exact Yw he [.bool r] ⟨rfl, trivial⟩ (.bool _) ⟨rfl, rfl⟩

end Go.Proofs.Ytaedmgkcmbhicaa
