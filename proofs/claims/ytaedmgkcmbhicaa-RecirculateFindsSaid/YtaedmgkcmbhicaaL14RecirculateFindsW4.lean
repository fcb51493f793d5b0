/- Printed by wip/lift/lift.py: the walks that show that the program computes them. -/
import Derived.Test.YtaedmgkcmbhicaaL14RecirculateFindsW3
namespace Go.Proofs.Ytaedmgkcmbhicaa
open Go Go.Aml Go.L
attribute [local irreducible] VRd VEf VOp VOps VWp DOps
set_option linter.unusedVariables false
open Go.Aml renaming vops_rd → Va, rd_fieldAddr → Vb, vops_skip → Vc, vwp_region → Vd, vops_nil → Ve, vwp_seq → Vf, getO_N → Vg, rn_low → Vh, vops_efE → Vi, rd_load1 → Vj, rd_mvI → Vk, lenS → Vl, weak_pick → Vm, ltObj_es → Vn, lt_agg → Vo, weak_sub → Vp, ltObj_map → Vq, rd_mvB → Vr, vwp_monoW → Vs, rn_ptr → Vt, cv_same → Vu, all1 → Vv, vef_store → Vw, dops_rdW → Vx, rd_pickF → Vy, vef_callS → Vz, rd_loadN → Xa, nn_same → Xb, rd_pickT → Xc, vt1 → Xd, rd_loadV1 → Xe, sets_nil → Xf, rd_mvP → Xg, vwp_block → Xh, vwp_cond → Xi, vwp_skip → Xj, onlyE → Xk, vops_take → Xl, vef_allocN → Xm, setO_N → Xn, rd_to → Xo, len_setL → Xp, rd_fieldVaddr → Xq, vcalls_of_body → Xr, len_app → Xs, Lift → Xt, rd_ixV → Xu, rd_asI → Xv, rd_mvV → Xw, vef_callP → Xx, VRd → Xy, Weak → Xz, dops_ef → Ya, vwp_ret → Yb, rn_sl → Yc, dr1 → Yd, rd_build → Ye, bnd → Yf, nt_ne → Yg, nt_all2 → Yh, getI_some → Yi, lp_bindE → Yj, sets_B → Yk, vwp_weak → Yl, lt_map → Ym, rd_mvL → Yn, ltObjN → Yo, rd_nilPtr → Yp, bifT → Yq, bifF → Yr, getO_B → Ys, vef_litF → Yt, rd_lenV → Yu, weak_freezeN → Yv, all0 → Yw, dops_nil → Yx, vwp_loopC → Yy, rd_lss → Yz, lp_some → Za, get_B → Zb, bodyQ_pure → Zc, vwp_exit → Zd, neF → Ze, rd_add → Zf, dops_skip → Zg, VCalls → Zh, rd_asB → Zi, full_take → Zj, rd_eql → Zk, vops_skipX → Zl, nt_all → Zm, vwp_drawn → Zn, rd_loadVN → Zo, rd_sub → Zp, rd_gtr → Zq, rd_ixS → Zr, rd_ldL1 → Zs, dopx_rd → Zt, rx1 → Zu, sets_own → Zv, vef_apL → Zw, vef_boxN → Zx, vwp_drawn0 → Zy, vcalls_low → Zz
open List renaming map → Wa
open Go.Aml.PV renaming int → Wb
open Go.Aml.PV renaming bool → Wc
open Option.some renaming inj → Wd
open Nat renaming le_of_ble_eq_true → We
open Nat renaming succ_pos → Wf
open Bool renaming eq_false_or_eq_true → Wg
open List renaming length_map → Wh
set_option maxHeartbeats 4000000

theorem F_law14_awake_ok  {r : Bool} (hF : F_law14_awake = some r) (low : List AObj) :
    Zh Try.prog 14 [] low fun x low' => x = .bool r ∧ low' = low := by
 refine Xr (nt := 62) (rs := [.tmp 0]) Try.func14 rfl rfl (We rfl) rfl ?_
 refine Vs (Q' := FnE (fun E' lw lc => Xz E' lw lc [(0, .bool r)] low [])) ?_ ?_
 ·unfold F_law14_awake at hF
  refine Vf ?_
  refine Vd ?_
  refine Va (Zi rfl) rfl ?_
  refine Ve ?_
  refine Vf ?_
  refine Vd ?_
  refine Va (Ye (vs := [(0, .int .i64 1), (1, .int .i64 1)]) (ds := [.int .i64 1, .int .i64 1]) tz_44 rfl rfl tp_44 ⟨rfl, rfl, rfl, rfl, trivial⟩ (Yh rfl) rfl) rfl ?_
  refine Va (Ye (vs := [(0, .int .i64 0), (1, .int .i64 1), (2, .int .i64 1), (3, .int .i64 1), (6, .agg [.int .i64 1, .int .i64 1])]) (ds := [.int .i64 0, .int .i64 1, .int .i64 1, .int .i64 1, .bool false, .bool false, .int .i64 1, .int .i64 1, .int .i64 0, .int .i64 0]) tz_46 rfl rfl tp_46 ⟨rfl, rfl, rfl, rfl, rfl, rfl, rfl, rfl, rfl, rfl, trivial⟩ (Yh rfl) rfl) rfl ?_
  refine Vi (Xm rfl rfl tz_46 rfl rfl (Wf _) rfl) rfl ?_
  refine Vi (Vw (p := .agg [.int .i64 0, .int .i64 1, .int .i64 1, .int .i64 1, .bool false, .bool false, .int .i64 1, .int .i64 1, .int .i64 0, .int .i64 0]) (e' := .agg [.int .i64 0, .int .i64 1, .int .i64 1, .int .i64 1, .bool false, .bool false, .int .i64 1, .int .i64 1, .int .i64 0, .int .i64 0]) rfl (Vg rfl rfl) rfl rfl ts_46 rfl (Yg rfl) rfl (We rfl) rfl (Xn rfl rfl)) rfl ?_
  refine Ve ?_
  refine Vf ?_
  refine Vd ?_
  refine Va (Ye (vs := []) (ds := [.int .i64 0, .bool false]) tz_48 rfl rfl tp_48 trivial (Yh rfl) rfl) rfl ?_
  refine Va (Ye (vs := []) (ds := [.int .i64 0, .bool false]) tz_48 rfl rfl tp_48 trivial (Yh rfl) rfl) rfl ?_
  refine Vi (Yt (es := Wa T_Place.enc [(T_Place.mk 0 false), (T_Place.mk 0 false)]) ⟨rfl, rfl, rfl, rfl, trivial⟩ rfl rfl (Zm rfl) te_24 ts_48 tz_48 rfl rfl (Wf _) (by decide) (Ym T_Place.enc_lt)) rfl ?_
  refine Va (Xa (ds := [.int .i64 0, .int .i64 1, .int .i64 1, .int .i64 1, .bool false, .bool false, .int .i64 1, .int .i64 1, .int .i64 0, .int .i64 0]) rfl (Vg rfl rfl) rfl ta_46 ts_46 rfl rfl rfl) rfl ?_
  refine Va (Xa (ds := [.int .i64 0, .int .i64 1, .int .i64 1, .int .i64 1, .bool false, .bool false, .int .i64 1, .int .i64 1, .int .i64 0, .int .i64 0]) rfl (Vg rfl rfl) rfl ta_46 ts_46 rfl rfl rfl) rfl ?_
  refine Vi (Yt (es := Wa T_Road.enc [(T_Road.mk 0 1 1 1 false false (T_Span.mk 1 1) (T_Span.mk 0 0)), (T_Road.mk 0 1 1 1 false false (T_Span.mk 1 1) (T_Span.mk 0 0))]) ⟨rfl, rfl, rfl, rfl, trivial⟩ rfl rfl (Zm rfl) te_25 ts_46 tz_46 rfl rfl (Wf _) (by decide) (Ym T_Road.enc_lt)) rfl ?_
  refine Va (Ye (vs := [(0, .vs 2 (Wa T_Place.enc [(T_Place.mk 0 false), (T_Place.mk 0 false)])), (1, .vs 10 (Wa T_Road.enc [(T_Road.mk 0 1 1 1 false false (T_Span.mk 1 1) (T_Span.mk 0 0)), (T_Road.mk 0 1 1 1 false false (T_Span.mk 1 1) (T_Span.mk 0 0))]))]) (ds := [.vs 2 (Wa T_Place.enc [(T_Place.mk 0 false), (T_Place.mk 0 false)]), .vs 10 (Wa T_Road.enc [(T_Road.mk 0 1 1 1 false false (T_Span.mk 1 1) (T_Span.mk 0 0)), (T_Road.mk 0 1 1 1 false false (T_Span.mk 1 1) (T_Span.mk 0 0))])]) tz_27 rfl rfl tp_27 ⟨rfl, rfl, rfl, rfl, trivial⟩ (Yh rfl) rfl) rfl ?_
  refine Vi (Xm rfl rfl tz_27 rfl rfl (Wf _) rfl) rfl ?_
  refine Vi (Vw (p := .agg [.vs 2 (Wa T_Place.enc [(T_Place.mk 0 false), (T_Place.mk 0 false)]), .vs 10 (Wa T_Road.enc [(T_Road.mk 0 1 1 1 false false (T_Span.mk 1 1) (T_Span.mk 0 0)), (T_Road.mk 0 1 1 1 false false (T_Span.mk 1 1) (T_Span.mk 0 0))])]) (e' := .agg [.vs 2 (Wa T_Place.enc [(T_Place.mk 0 false), (T_Place.mk 0 false)]), .vs 10 (Wa T_Road.enc [(T_Road.mk 0 1 1 1 false false (T_Span.mk 1 1) (T_Span.mk 0 0)), (T_Road.mk 0 1 1 1 false false (T_Span.mk 1 1) (T_Span.mk 0 0))])]) rfl (Vg rfl rfl) rfl rfl ts_27 rfl (Yg rfl) rfl (We rfl) rfl (Xn rfl rfl)) rfl ?_
  refine Ve ?_
  refine Vf ?_
  refine Vd ?_
  refine Va (Ye (vs := [(0, .int .i64 1), (1, .int .i64 5)]) (ds := [.int .i64 1, .int .i64 5]) tz_44 rfl rfl tp_44 ⟨rfl, rfl, rfl, rfl, trivial⟩ (Yh rfl) rfl) rfl ?_
  refine Va (Ye (vs := [(0, .int .i64 (-5)), (1, .int .i64 (-1))]) (ds := [.int .i64 (-5), .int .i64 (-1)]) tz_44 rfl rfl tp_44 ⟨rfl, rfl, rfl, rfl, trivial⟩ (Yh rfl) rfl) rfl ?_
  refine Vi (Yt (es := Wa T_Span.enc [(T_Span.mk 1 5), (T_Span.mk (-5) (-1))]) ⟨rfl, rfl, rfl, rfl, trivial⟩ rfl rfl (Zm rfl) te_23 ts_44 tz_44 rfl rfl (Wf _) (by decide) (Ym T_Span.enc_lt)) rfl ?_
  refine Va (rd_asV rfl) rfl ?_
  refine Ve ?_
  refine Vf ?_
  refine Vd ?_
  obtain ⟨x1, h2, hF⟩ := Yf hF
  refine Va (Xa (ds := [.vs 2 (Wa T_Place.enc [(T_Place.mk 0 false), (T_Place.mk 0 false)]), .vs 10 (Wa T_Road.enc [(T_Road.mk 0 1 1 1 false false (T_Span.mk 1 1) (T_Span.mk 0 0)), (T_Road.mk 0 1 1 1 false false (T_Span.mk 1 1) (T_Span.mk 0 0))])]) rfl (Vg rfl rfl) rfl ta_27 ts_27 rfl rfl rfl) rfl ?_
  refine Va (Xw rfl) rfl ?_
  refine Vi (Xx rfl Try.call9 (F_recirculate_Ways_ok h2 _)) rfl ?_
  refine Va (rd_asV rfl) rfl ?_
  refine Ve ?_
  refine Vf ?_
  refine Vd ?_
  rcases Wg (decide (((x1).length : Int) = 2)) with c3 | c3
  ·have hF := Yq c3 hF
   obtain ⟨x4, h5, hF⟩ := Yf hF
   rcases Wg ((x4.a0 == 1) && ((x4.a1 == 0) && true)) with c6 | c6
   ·have hF := Yq c6 hF
    obtain ⟨x7, h8, hF⟩ := Yf hF
    obtain ⟨x9, h10, hF⟩ := Yf hF
    rcases Wg x9 with c11 | c11
    ·have hF := Yq c11 hF
     obtain ⟨x12, h13, hF⟩ := Yf hF
     rcases Wg (decide (((x12).length : Int) = 2)) with c14 | c14
     ·have hF := Yq c14 hF
      obtain ⟨x15, h16, hF⟩ := Yf hF
      rcases Wg (decide (((x15).length : Int) = 0)) with c17 | c17
      ·have hF := Yq c17 hF
       obtain ⟨x18, h19, hF⟩ := Yf hF
       obtain ⟨x20, h21, hF⟩ := Yf hF
       refine Va (Xw rfl) rfl ?_
       refine Va (Xo (Yu rfl rfl te_36) (congrArg (fun n : Nat => Wb .i64 (n : Int)) (Wh _))) rfl ?_
       refine Va (Zk rfl rfl) rfl ?_
       refine Va (Vr rfl) rfl ?_
       refine Xd rfl rfl c3 ?_
       refine Va (Xw rfl) rfl ?_
       refine Xd rfl rfl c3 ?_
       refine Va (Xo (Xu rfl rfl h5 te_36 ts_40) (v' := .vptr [.int .i64 x4.a0, .int .i64 x4.a1] 0) rfl) rfl ?_
       refine Xd rfl rfl c3 ?_
       refine Va (Zo (ds := [.int .i64 x4.a0, .int .i64 x4.a1]) rfl ta_40 ts_40 rfl rfl) rfl ?_
       refine Xd rfl rfl c3 ?_
       refine Va (rd_buildA (vs := [(0, .int .i64 1), (1, .int .i64 0)]) (ds := [.int .i64 1, .int .i64 0]) tz_40 rfl rfl tr_40 ts_3 ⟨rfl, rfl, rfl, rfl, trivial⟩ (Yh rfl) rfl) rfl ?_
       refine Xd rfl rfl c3 ?_
       refine Va (rd_eqlV (tab := eqTab) eqTab_ok rfl rfl eqg_40 rfl) rfl ?_
       refine Va (Xc (congrArg Wc c3) rfl) rfl ?_
       refine Va (Vr rfl) rfl ?_
       refine Xd rfl rfl c6 ?_
       refine Va (Xa (ds := [.vs 2 (Wa T_Place.enc [(T_Place.mk 0 false), (T_Place.mk 0 false)]), .vs 10 (Wa T_Road.enc [(T_Road.mk 0 1 1 1 false false (T_Span.mk 1 1) (T_Span.mk 0 0)), (T_Road.mk 0 1 1 1 false false (T_Span.mk 1 1) (T_Span.mk 0 0))])]) rfl (Vg rfl rfl) rfl ta_27 ts_27 rfl rfl rfl) rfl ?_
       refine Xd rfl rfl c6 ?_
       refine Va (Xw rfl) rfl ?_
       refine Xd rfl rfl c6 ?_
       refine Vi (Xx rfl Try.call12 (F_recirculate_Circles_ok h8 _)) rfl ?_
       refine Xd rfl rfl c6 ?_
       refine Vi (Yt (es := Wa (Wb .i64) [0, 1]) ⟨rfl, rfl, rfl, rfl, trivial⟩ rfl rfl (Zm rfl) te_32 ts_3 tz_3 rfl rfl (Wf _) (by decide) (Ym (fun _ => .int _ _))) rfl ?_
       refine Xd rfl rfl c6 ?_
       refine Vi (Xx rfl Try.call11 (F_ref01_Ints_ok h10 _)) rfl ?_
       refine Va (Xc (congrArg Wc c6) rfl) rfl ?_
       refine Va (Vr rfl) rfl ?_
       refine Xd rfl rfl c11 ?_
       refine Va (Xa (ds := [.vs 2 (Wa T_Place.enc [(T_Place.mk 0 false), (T_Place.mk 0 false)]), .vs 10 (Wa T_Road.enc [(T_Road.mk 0 1 1 1 false false (T_Span.mk 1 1) (T_Span.mk 0 0)), (T_Road.mk 0 1 1 1 false false (T_Span.mk 1 1) (T_Span.mk 0 0))])]) rfl (Vg rfl rfl) rfl ta_27 ts_27 rfl rfl rfl) rfl ?_
       refine Xd rfl rfl c11 ?_
       refine Va (Ye (vs := [(0, .int .i64 (-1)), (1, .int .i64 5)]) (ds := [.int .i64 (-1), .int .i64 5]) tz_44 rfl rfl tp_44 ⟨rfl, rfl, rfl, rfl, trivial⟩ (Yh rfl) rfl) rfl ?_
       refine Xd rfl rfl c11 ?_
       refine Va (Ye (vs := [(0, .int .i64 1), (1, .int .i64 5)]) (ds := [.int .i64 1, .int .i64 5]) tz_44 rfl rfl tp_44 ⟨rfl, rfl, rfl, rfl, trivial⟩ (Yh rfl) rfl) rfl ?_
       refine Xd rfl rfl c11 ?_
       refine Vi (Yt (es := Wa T_Span.enc [(T_Span.mk (-1) 5), (T_Span.mk 1 5)]) ⟨rfl, rfl, rfl, rfl, trivial⟩ rfl rfl (Zm rfl) te_23 ts_44 tz_44 rfl rfl (Wf _) (by decide) (Ym T_Span.enc_lt)) rfl ?_
       refine Xd rfl rfl c11 ?_
       refine Vi (Xx rfl Try.call12 (F_recirculate_Circles_ok h13 _)) rfl ?_
       refine Xd rfl rfl c11 ?_
       refine Va (Xo (Yu rfl rfl te_32) (congrArg (fun n : Nat => Wb .i64 (n : Int)) (Wh _))) rfl ?_
       refine Xd rfl rfl c11 ?_
       refine Va (Zk rfl rfl) rfl ?_
       refine Va (Xc (congrArg Wc c11) rfl) rfl ?_
       refine Va (Vr rfl) rfl ?_
       refine Xd rfl rfl c14 ?_
       refine Va (Xa (ds := [.vs 2 (Wa T_Place.enc [(T_Place.mk 0 false), (T_Place.mk 0 false)]), .vs 10 (Wa T_Road.enc [(T_Road.mk 0 1 1 1 false false (T_Span.mk 1 1) (T_Span.mk 0 0)), (T_Road.mk 0 1 1 1 false false (T_Span.mk 1 1) (T_Span.mk 0 0))])]) rfl (Vg rfl rfl) rfl ta_27 ts_27 rfl rfl rfl) rfl ?_
       refine Xd rfl rfl c14 ?_
       refine Va (Ye (vs := [(0, .int .i64 1), (1, .int .i64 5)]) (ds := [.int .i64 1, .int .i64 5]) tz_44 rfl rfl tp_44 ⟨rfl, rfl, rfl, rfl, trivial⟩ (Yh rfl) rfl) rfl ?_
       refine Xd rfl rfl c14 ?_
       refine Va (Ye (vs := [(0, .int .i64 1), (1, .int .i64 5)]) (ds := [.int .i64 1, .int .i64 5]) tz_44 rfl rfl tp_44 ⟨rfl, rfl, rfl, rfl, trivial⟩ (Yh rfl) rfl) rfl ?_
       refine Xd rfl rfl c14 ?_
       refine Vi (Yt (es := Wa T_Span.enc [(T_Span.mk 1 5), (T_Span.mk 1 5)]) ⟨rfl, rfl, rfl, rfl, trivial⟩ rfl rfl (Zm rfl) te_23 ts_44 tz_44 rfl rfl (Wf _) (by decide) (Ym T_Span.enc_lt)) rfl ?_
       refine Xd rfl rfl c14 ?_
       refine Vi (Xx rfl Try.call12 (F_recirculate_Circles_ok h16 _)) rfl ?_
       refine Xd rfl rfl c14 ?_
       refine Va (Xo (Yu rfl rfl te_32) (congrArg (fun n : Nat => Wb .i64 (n : Int)) (Wh _))) rfl ?_
       refine Xd rfl rfl c14 ?_
       refine Va (Zk rfl rfl) rfl ?_
       refine Va (Xc (congrArg Wc c14) rfl) rfl ?_
       refine Va (Vr rfl) rfl ?_
       refine Xd rfl rfl c17 ?_
       refine Va (Xa (ds := [.vs 2 (Wa T_Place.enc [(T_Place.mk 0 false), (T_Place.mk 0 false)]), .vs 10 (Wa T_Road.enc [(T_Road.mk 0 1 1 1 false false (T_Span.mk 1 1) (T_Span.mk 0 0)), (T_Road.mk 0 1 1 1 false false (T_Span.mk 1 1) (T_Span.mk 0 0))])]) rfl (Vg rfl rfl) rfl ta_27 ts_27 rfl rfl rfl) rfl ?_
       refine Xd rfl rfl c17 ?_
       refine Va (Xw rfl) rfl ?_
       refine Xd rfl rfl c17 ?_
       refine Vi (Xx rfl Try.call19 (F_recirculate_Mixed_ok h19 _)) rfl ?_
       refine Xd rfl rfl c17 ?_
       refine Vi (Yt (es := Wa (Wb .i64) [0, 1]) ⟨rfl, rfl, rfl, rfl, trivial⟩ rfl rfl (Zm rfl) te_32 ts_3 tz_3 rfl rfl (Wf _) (by decide) (Ym (fun _ => .int _ _))) rfl ?_
       refine Xd rfl rfl c17 ?_
       refine Vi (Xx rfl Try.call11 (F_ref01_Ints_ok h21 _)) rfl ?_
       refine Va (Xc (congrArg Wc c17) rfl) rfl ?_
       refine Va (Zi rfl) rfl ?_
       refine Ve ?_
       refine Yb ?_
       obtain rfl := Wd hF
       refine fnR ?_
       exact Vm rfl [] (by decide) ⟨Vh rfl (.bool _), trivial⟩ trivial
      ·have hF := Yr c17 hF
       refine Va (Xw rfl) rfl ?_
       refine Va (Xo (Yu rfl rfl te_36) (congrArg (fun n : Nat => Wb .i64 (n : Int)) (Wh _))) rfl ?_
       refine Va (Zk rfl rfl) rfl ?_
       refine Va (Vr rfl) rfl ?_
       refine Xd rfl rfl c3 ?_
       refine Va (Xw rfl) rfl ?_
       refine Xd rfl rfl c3 ?_
       refine Va (Xo (Xu rfl rfl h5 te_36 ts_40) (v' := .vptr [.int .i64 x4.a0, .int .i64 x4.a1] 0) rfl) rfl ?_
       refine Xd rfl rfl c3 ?_
       refine Va (Zo (ds := [.int .i64 x4.a0, .int .i64 x4.a1]) rfl ta_40 ts_40 rfl rfl) rfl ?_
       refine Xd rfl rfl c3 ?_
       refine Va (rd_buildA (vs := [(0, .int .i64 1), (1, .int .i64 0)]) (ds := [.int .i64 1, .int .i64 0]) tz_40 rfl rfl tr_40 ts_3 ⟨rfl, rfl, rfl, rfl, trivial⟩ (Yh rfl) rfl) rfl ?_
       refine Xd rfl rfl c3 ?_
       refine Va (rd_eqlV (tab := eqTab) eqTab_ok rfl rfl eqg_40 rfl) rfl ?_
       refine Va (Xc (congrArg Wc c3) rfl) rfl ?_
       refine Va (Vr rfl) rfl ?_
       refine Xd rfl rfl c6 ?_
       refine Va (Xa (ds := [.vs 2 (Wa T_Place.enc [(T_Place.mk 0 false), (T_Place.mk 0 false)]), .vs 10 (Wa T_Road.enc [(T_Road.mk 0 1 1 1 false false (T_Span.mk 1 1) (T_Span.mk 0 0)), (T_Road.mk 0 1 1 1 false false (T_Span.mk 1 1) (T_Span.mk 0 0))])]) rfl (Vg rfl rfl) rfl ta_27 ts_27 rfl rfl rfl) rfl ?_
       refine Xd rfl rfl c6 ?_
       refine Va (Xw rfl) rfl ?_
       refine Xd rfl rfl c6 ?_
       refine Vi (Xx rfl Try.call12 (F_recirculate_Circles_ok h8 _)) rfl ?_
       refine Xd rfl rfl c6 ?_
       refine Vi (Yt (es := Wa (Wb .i64) [0, 1]) ⟨rfl, rfl, rfl, rfl, trivial⟩ rfl rfl (Zm rfl) te_32 ts_3 tz_3 rfl rfl (Wf _) (by decide) (Ym (fun _ => .int _ _))) rfl ?_
       refine Xd rfl rfl c6 ?_
       refine Vi (Xx rfl Try.call11 (F_ref01_Ints_ok h10 _)) rfl ?_
       refine Va (Xc (congrArg Wc c6) rfl) rfl ?_
       refine Va (Vr rfl) rfl ?_
       refine Xd rfl rfl c11 ?_
       refine Va (Xa (ds := [.vs 2 (Wa T_Place.enc [(T_Place.mk 0 false), (T_Place.mk 0 false)]), .vs 10 (Wa T_Road.enc [(T_Road.mk 0 1 1 1 false false (T_Span.mk 1 1) (T_Span.mk 0 0)), (T_Road.mk 0 1 1 1 false false (T_Span.mk 1 1) (T_Span.mk 0 0))])]) rfl (Vg rfl rfl) rfl ta_27 ts_27 rfl rfl rfl) rfl ?_
       refine Xd rfl rfl c11 ?_
       refine Va (Ye (vs := [(0, .int .i64 (-1)), (1, .int .i64 5)]) (ds := [.int .i64 (-1), .int .i64 5]) tz_44 rfl rfl tp_44 ⟨rfl, rfl, rfl, rfl, trivial⟩ (Yh rfl) rfl) rfl ?_
       refine Xd rfl rfl c11 ?_
       refine Va (Ye (vs := [(0, .int .i64 1), (1, .int .i64 5)]) (ds := [.int .i64 1, .int .i64 5]) tz_44 rfl rfl tp_44 ⟨rfl, rfl, rfl, rfl, trivial⟩ (Yh rfl) rfl) rfl ?_
       refine Xd rfl rfl c11 ?_
       refine Vi (Yt (es := Wa T_Span.enc [(T_Span.mk (-1) 5), (T_Span.mk 1 5)]) ⟨rfl, rfl, rfl, rfl, trivial⟩ rfl rfl (Zm rfl) te_23 ts_44 tz_44 rfl rfl (Wf _) (by decide) (Ym T_Span.enc_lt)) rfl ?_
       refine Xd rfl rfl c11 ?_
       refine Vi (Xx rfl Try.call12 (F_recirculate_Circles_ok h13 _)) rfl ?_
       refine Xd rfl rfl c11 ?_
       refine Va (Xo (Yu rfl rfl te_32) (congrArg (fun n : Nat => Wb .i64 (n : Int)) (Wh _))) rfl ?_
       refine Xd rfl rfl c11 ?_
       refine Va (Zk rfl rfl) rfl ?_
       refine Va (Xc (congrArg Wc c11) rfl) rfl ?_
       refine Va (Vr rfl) rfl ?_
       refine Xd rfl rfl c14 ?_
       refine Va (Xa (ds := [.vs 2 (Wa T_Place.enc [(T_Place.mk 0 false), (T_Place.mk 0 false)]), .vs 10 (Wa T_Road.enc [(T_Road.mk 0 1 1 1 false false (T_Span.mk 1 1) (T_Span.mk 0 0)), (T_Road.mk 0 1 1 1 false false (T_Span.mk 1 1) (T_Span.mk 0 0))])]) rfl (Vg rfl rfl) rfl ta_27 ts_27 rfl rfl rfl) rfl ?_
       refine Xd rfl rfl c14 ?_
       refine Va (Ye (vs := [(0, .int .i64 1), (1, .int .i64 5)]) (ds := [.int .i64 1, .int .i64 5]) tz_44 rfl rfl tp_44 ⟨rfl, rfl, rfl, rfl, trivial⟩ (Yh rfl) rfl) rfl ?_
       refine Xd rfl rfl c14 ?_
       refine Va (Ye (vs := [(0, .int .i64 1), (1, .int .i64 5)]) (ds := [.int .i64 1, .int .i64 5]) tz_44 rfl rfl tp_44 ⟨rfl, rfl, rfl, rfl, trivial⟩ (Yh rfl) rfl) rfl ?_
       refine Xd rfl rfl c14 ?_
       refine Vi (Yt (es := Wa T_Span.enc [(T_Span.mk 1 5), (T_Span.mk 1 5)]) ⟨rfl, rfl, rfl, rfl, trivial⟩ rfl rfl (Zm rfl) te_23 ts_44 tz_44 rfl rfl (Wf _) (by decide) (Ym T_Span.enc_lt)) rfl ?_
       refine Xd rfl rfl c14 ?_
       refine Vi (Xx rfl Try.call12 (F_recirculate_Circles_ok h16 _)) rfl ?_
       refine Xd rfl rfl c14 ?_
       refine Va (Xo (Yu rfl rfl te_32) (congrArg (fun n : Nat => Wb .i64 (n : Int)) (Wh _))) rfl ?_
       refine Xd rfl rfl c14 ?_
       refine Va (Zk rfl rfl) rfl ?_
       refine Va (Xc (congrArg Wc c14) rfl) rfl ?_
       refine Va (Vr rfl) rfl ?_
       refine Vc rfl rfl (Ze c17) rfl ?_
       refine Vc rfl rfl (Ze c17) rfl ?_
       refine Vc rfl rfl (Ze c17) rfl ?_
       refine Vc rfl rfl (Ze c17) rfl ?_
       refine Vc rfl rfl (Ze c17) rfl ?_
       refine Va (Vy (congrArg Wc c17) rfl) rfl ?_
       refine Va (Zi rfl) rfl ?_
       refine Ve ?_
       refine Yb ?_
       obtain rfl := Wd hF
       refine fnR ?_
       exact Vm rfl [] (by decide) ⟨Vh rfl (.bool _), trivial⟩ trivial
     ·have hF := Yr c14 hF
      refine Va (Xw rfl) rfl ?_
      refine Va (Xo (Yu rfl rfl te_36) (congrArg (fun n : Nat => Wb .i64 (n : Int)) (Wh _))) rfl ?_
      refine Va (Zk rfl rfl) rfl ?_
      refine Va (Vr rfl) rfl ?_
      refine Xd rfl rfl c3 ?_
      refine Va (Xw rfl) rfl ?_
      refine Xd rfl rfl c3 ?_
      refine Va (Xo (Xu rfl rfl h5 te_36 ts_40) (v' := .vptr [.int .i64 x4.a0, .int .i64 x4.a1] 0) rfl) rfl ?_
      refine Xd rfl rfl c3 ?_
      refine Va (Zo (ds := [.int .i64 x4.a0, .int .i64 x4.a1]) rfl ta_40 ts_40 rfl rfl) rfl ?_
      refine Xd rfl rfl c3 ?_
      refine Va (rd_buildA (vs := [(0, .int .i64 1), (1, .int .i64 0)]) (ds := [.int .i64 1, .int .i64 0]) tz_40 rfl rfl tr_40 ts_3 ⟨rfl, rfl, rfl, rfl, trivial⟩ (Yh rfl) rfl) rfl ?_
      refine Xd rfl rfl c3 ?_
      refine Va (rd_eqlV (tab := eqTab) eqTab_ok rfl rfl eqg_40 rfl) rfl ?_
      refine Va (Xc (congrArg Wc c3) rfl) rfl ?_
      refine Va (Vr rfl) rfl ?_
      refine Xd rfl rfl c6 ?_
      refine Va (Xa (ds := [.vs 2 (Wa T_Place.enc [(T_Place.mk 0 false), (T_Place.mk 0 false)]), .vs 10 (Wa T_Road.enc [(T_Road.mk 0 1 1 1 false false (T_Span.mk 1 1) (T_Span.mk 0 0)), (T_Road.mk 0 1 1 1 false false (T_Span.mk 1 1) (T_Span.mk 0 0))])]) rfl (Vg rfl rfl) rfl ta_27 ts_27 rfl rfl rfl) rfl ?_
      refine Xd rfl rfl c6 ?_
      refine Va (Xw rfl) rfl ?_
      refine Xd rfl rfl c6 ?_
      refine Vi (Xx rfl Try.call12 (F_recirculate_Circles_ok h8 _)) rfl ?_
      refine Xd rfl rfl c6 ?_
      refine Vi (Yt (es := Wa (Wb .i64) [0, 1]) ⟨rfl, rfl, rfl, rfl, trivial⟩ rfl rfl (Zm rfl) te_32 ts_3 tz_3 rfl rfl (Wf _) (by decide) (Ym (fun _ => .int _ _))) rfl ?_
      refine Xd rfl rfl c6 ?_
      refine Vi (Xx rfl Try.call11 (F_ref01_Ints_ok h10 _)) rfl ?_
      refine Va (Xc (congrArg Wc c6) rfl) rfl ?_
      refine Va (Vr rfl) rfl ?_
      refine Xd rfl rfl c11 ?_
      refine Va (Xa (ds := [.vs 2 (Wa T_Place.enc [(T_Place.mk 0 false), (T_Place.mk 0 false)]), .vs 10 (Wa T_Road.enc [(T_Road.mk 0 1 1 1 false false (T_Span.mk 1 1) (T_Span.mk 0 0)), (T_Road.mk 0 1 1 1 false false (T_Span.mk 1 1) (T_Span.mk 0 0))])]) rfl (Vg rfl rfl) rfl ta_27 ts_27 rfl rfl rfl) rfl ?_
      refine Xd rfl rfl c11 ?_
      refine Va (Ye (vs := [(0, .int .i64 (-1)), (1, .int .i64 5)]) (ds := [.int .i64 (-1), .int .i64 5]) tz_44 rfl rfl tp_44 ⟨rfl, rfl, rfl, rfl, trivial⟩ (Yh rfl) rfl) rfl ?_
      refine Xd rfl rfl c11 ?_
      refine Va (Ye (vs := [(0, .int .i64 1), (1, .int .i64 5)]) (ds := [.int .i64 1, .int .i64 5]) tz_44 rfl rfl tp_44 ⟨rfl, rfl, rfl, rfl, trivial⟩ (Yh rfl) rfl) rfl ?_
      refine Xd rfl rfl c11 ?_
      refine Vi (Yt (es := Wa T_Span.enc [(T_Span.mk (-1) 5), (T_Span.mk 1 5)]) ⟨rfl, rfl, rfl, rfl, trivial⟩ rfl rfl (Zm rfl) te_23 ts_44 tz_44 rfl rfl (Wf _) (by decide) (Ym T_Span.enc_lt)) rfl ?_
      refine Xd rfl rfl c11 ?_
      refine Vi (Xx rfl Try.call12 (F_recirculate_Circles_ok h13 _)) rfl ?_
      refine Xd rfl rfl c11 ?_
      refine Va (Xo (Yu rfl rfl te_32) (congrArg (fun n : Nat => Wb .i64 (n : Int)) (Wh _))) rfl ?_
      refine Xd rfl rfl c11 ?_
      refine Va (Zk rfl rfl) rfl ?_
      refine Va (Xc (congrArg Wc c11) rfl) rfl ?_
      refine Va (Vr rfl) rfl ?_
      refine Vc rfl rfl (Ze c14) rfl ?_
      refine Vc rfl rfl (Ze c14) rfl ?_
      refine Vc rfl rfl (Ze c14) rfl ?_
      refine Vc rfl rfl (Ze c14) rfl ?_
      refine Vc rfl rfl (Ze c14) rfl ?_
      refine Vc rfl rfl (Ze c14) rfl ?_
      refine Vc rfl rfl (Ze c14) rfl ?_
      refine Va (Vy (congrArg Wc c14) rfl) rfl ?_
      refine Va (Vr rfl) rfl ?_
      refine Vc rfl rfl (by decide) rfl ?_
      refine Vc rfl rfl (by decide) rfl ?_
      refine Vc rfl rfl (by decide) rfl ?_
      refine Vc rfl rfl (by decide) rfl ?_
      refine Vc rfl rfl (by decide) rfl ?_
      refine Va (Vy rfl rfl) rfl ?_
      refine Va (Zi rfl) rfl ?_
      refine Ve ?_
      refine Yb ?_
      obtain rfl := Wd hF
      refine fnR ?_
      exact Vm rfl [] (by decide) ⟨Vh rfl (.bool _), trivial⟩ trivial
    ·have hF := Yr c11 hF
     refine Va (Xw rfl) rfl ?_
     refine Va (Xo (Yu rfl rfl te_36) (congrArg (fun n : Nat => Wb .i64 (n : Int)) (Wh _))) rfl ?_
     refine Va (Zk rfl rfl) rfl ?_
     refine Va (Vr rfl) rfl ?_
     refine Xd rfl rfl c3 ?_
     refine Va (Xw rfl) rfl ?_
     refine Xd rfl rfl c3 ?_
     refine Va (Xo (Xu rfl rfl h5 te_36 ts_40) (v' := .vptr [.int .i64 x4.a0, .int .i64 x4.a1] 0) rfl) rfl ?_
     refine Xd rfl rfl c3 ?_
     refine Va (Zo (ds := [.int .i64 x4.a0, .int .i64 x4.a1]) rfl ta_40 ts_40 rfl rfl) rfl ?_
     refine Xd rfl rfl c3 ?_
     refine Va (rd_buildA (vs := [(0, .int .i64 1), (1, .int .i64 0)]) (ds := [.int .i64 1, .int .i64 0]) tz_40 rfl rfl tr_40 ts_3 ⟨rfl, rfl, rfl, rfl, trivial⟩ (Yh rfl) rfl) rfl ?_
     refine Xd rfl rfl c3 ?_
     refine Va (rd_eqlV (tab := eqTab) eqTab_ok rfl rfl eqg_40 rfl) rfl ?_
     refine Va (Xc (congrArg Wc c3) rfl) rfl ?_
     refine Va (Vr rfl) rfl ?_
     refine Xd rfl rfl c6 ?_
     refine Va (Xa (ds := [.vs 2 (Wa T_Place.enc [(T_Place.mk 0 false), (T_Place.mk 0 false)]), .vs 10 (Wa T_Road.enc [(T_Road.mk 0 1 1 1 false false (T_Span.mk 1 1) (T_Span.mk 0 0)), (T_Road.mk 0 1 1 1 false false (T_Span.mk 1 1) (T_Span.mk 0 0))])]) rfl (Vg rfl rfl) rfl ta_27 ts_27 rfl rfl rfl) rfl ?_
     refine Xd rfl rfl c6 ?_
     refine Va (Xw rfl) rfl ?_
     refine Xd rfl rfl c6 ?_
     refine Vi (Xx rfl Try.call12 (F_recirculate_Circles_ok h8 _)) rfl ?_
     refine Xd rfl rfl c6 ?_
     refine Vi (Yt (es := Wa (Wb .i64) [0, 1]) ⟨rfl, rfl, rfl, rfl, trivial⟩ rfl rfl (Zm rfl) te_32 ts_3 tz_3 rfl rfl (Wf _) (by decide) (Ym (fun _ => .int _ _))) rfl ?_
     refine Xd rfl rfl c6 ?_
     refine Vi (Xx rfl Try.call11 (F_ref01_Ints_ok h10 _)) rfl ?_
     refine Va (Xc (congrArg Wc c6) rfl) rfl ?_
     refine Va (Vr rfl) rfl ?_
     refine Vc rfl rfl (Ze c11) rfl ?_
     refine Vc rfl rfl (Ze c11) rfl ?_
     refine Vc rfl rfl (Ze c11) rfl ?_
     refine Vc rfl rfl (Ze c11) rfl ?_
     refine Vc rfl rfl (Ze c11) rfl ?_
     refine Vc rfl rfl (Ze c11) rfl ?_
     refine Vc rfl rfl (Ze c11) rfl ?_
     refine Va (Vy (congrArg Wc c11) rfl) rfl ?_
     refine Va (Vr rfl) rfl ?_
     refine Vc rfl rfl (by decide) rfl ?_
     refine Vc rfl rfl (by decide) rfl ?_
     refine Vc rfl rfl (by decide) rfl ?_
     refine Vc rfl rfl (by decide) rfl ?_
     refine Vc rfl rfl (by decide) rfl ?_
     refine Vc rfl rfl (by decide) rfl ?_
     refine Vc rfl rfl (by decide) rfl ?_
     refine Va (Vy rfl rfl) rfl ?_
     refine Va (Vr rfl) rfl ?_
     refine Vc rfl rfl (by decide) rfl ?_
     refine Vc rfl rfl (by decide) rfl ?_
     refine Vc rfl rfl (by decide) rfl ?_
     refine Vc rfl rfl (by decide) rfl ?_
     refine Vc rfl rfl (by decide) rfl ?_
     refine Va (Vy rfl rfl) rfl ?_
     refine Va (Zi rfl) rfl ?_
     refine Ve ?_
     refine Yb ?_
     obtain rfl := Wd hF
     refine fnR ?_
     exact Vm rfl [] (by decide) ⟨Vh rfl (.bool _), trivial⟩ trivial
   ·have hF := Yr c6 hF
    refine Va (Xw rfl) rfl ?_
    refine Va (Xo (Yu rfl rfl te_36) (congrArg (fun n : Nat => Wb .i64 (n : Int)) (Wh _))) rfl ?_
    refine Va (Zk rfl rfl) rfl ?_
    refine Va (Vr rfl) rfl ?_
    refine Xd rfl rfl c3 ?_
    refine Va (Xw rfl) rfl ?_
    refine Xd rfl rfl c3 ?_
    refine Va (Xo (Xu rfl rfl h5 te_36 ts_40) (v' := .vptr [.int .i64 x4.a0, .int .i64 x4.a1] 0) rfl) rfl ?_
    refine Xd rfl rfl c3 ?_
    refine Va (Zo (ds := [.int .i64 x4.a0, .int .i64 x4.a1]) rfl ta_40 ts_40 rfl rfl) rfl ?_
    refine Xd rfl rfl c3 ?_
    refine Va (rd_buildA (vs := [(0, .int .i64 1), (1, .int .i64 0)]) (ds := [.int .i64 1, .int .i64 0]) tz_40 rfl rfl tr_40 ts_3 ⟨rfl, rfl, rfl, rfl, trivial⟩ (Yh rfl) rfl) rfl ?_
    refine Xd rfl rfl c3 ?_
    refine Va (rd_eqlV (tab := eqTab) eqTab_ok rfl rfl eqg_40 rfl) rfl ?_
    refine Va (Xc (congrArg Wc c3) rfl) rfl ?_
    refine Va (Vr rfl) rfl ?_
    refine Vc rfl rfl (Ze c6) rfl ?_
    refine Vc rfl rfl (Ze c6) rfl ?_
    refine Vc rfl rfl (Ze c6) rfl ?_
    refine Vc rfl rfl (Ze c6) rfl ?_
    refine Vc rfl rfl (Ze c6) rfl ?_
    refine Va (Vy (congrArg Wc c6) rfl) rfl ?_
    refine Va (Vr rfl) rfl ?_
    refine Vc rfl rfl (by decide) rfl ?_
    refine Vc rfl rfl (by decide) rfl ?_
    refine Vc rfl rfl (by decide) rfl ?_
    refine Vc rfl rfl (by decide) rfl ?_
    refine Vc rfl rfl (by decide) rfl ?_
    refine Vc rfl rfl (by decide) rfl ?_
    refine Vc rfl rfl (by decide) rfl ?_
    refine Va (Vy rfl rfl) rfl ?_
    refine Va (Vr rfl) rfl ?_
    refine Vc rfl rfl (by decide) rfl ?_
    refine Vc rfl rfl (by decide) rfl ?_
    refine Vc rfl rfl (by decide) rfl ?_
    refine Vc rfl rfl (by decide) rfl ?_
    refine Vc rfl rfl (by decide) rfl ?_
    refine Vc rfl rfl (by decide) rfl ?_
    refine Vc rfl rfl (by decide) rfl ?_
    refine Va (Vy rfl rfl) rfl ?_
    refine Va (Vr rfl) rfl ?_
    refine Vc rfl rfl (by decide) rfl ?_
    refine Vc rfl rfl (by decide) rfl ?_
    refine Vc rfl rfl (by decide) rfl ?_
    refine Vc rfl rfl (by decide) rfl ?_
    refine Vc rfl rfl (by decide) rfl ?_
    refine Va (Vy rfl rfl) rfl ?_
    refine Va (Zi rfl) rfl ?_
    refine Ve ?_
    refine Yb ?_
    obtain rfl := Wd hF
    refine fnR ?_
    exact Vm rfl [] (by decide) ⟨Vh rfl (.bool _), trivial⟩ trivial
  ·have hF := Yr c3 hF
   refine Va (Xw rfl) rfl ?_
   refine Va (Xo (Yu rfl rfl te_36) (congrArg (fun n : Nat => Wb .i64 (n : Int)) (Wh _))) rfl ?_
   refine Va (Zk rfl rfl) rfl ?_
   refine Va (Vr rfl) rfl ?_
   refine Vc rfl rfl (Ze c3) rfl ?_
   refine Vc rfl rfl (Ze c3) rfl ?_
   refine Vc rfl rfl (Ze c3) rfl ?_
   refine Vc rfl rfl (Ze c3) rfl ?_
   refine Vc rfl rfl (Ze c3) rfl ?_
   refine Va (Vy (congrArg Wc c3) rfl) rfl ?_
   refine Va (Vr rfl) rfl ?_
   refine Vc rfl rfl (by decide) rfl ?_
   refine Vc rfl rfl (by decide) rfl ?_
   refine Vc rfl rfl (by decide) rfl ?_
   refine Vc rfl rfl (by decide) rfl ?_
   refine Vc rfl rfl (by decide) rfl ?_
   refine Va (Vy rfl rfl) rfl ?_
   refine Va (Vr rfl) rfl ?_
   refine Vc rfl rfl (by decide) rfl ?_
   refine Vc rfl rfl (by decide) rfl ?_
   refine Vc rfl rfl (by decide) rfl ?_
   refine Vc rfl rfl (by decide) rfl ?_
   refine Vc rfl rfl (by decide) rfl ?_
   refine Vc rfl rfl (by decide) rfl ?_
   refine Vc rfl rfl (by decide) rfl ?_
   refine Va (Vy rfl rfl) rfl ?_
   refine Va (Vr rfl) rfl ?_
   refine Vc rfl rfl (by decide) rfl ?_
   refine Vc rfl rfl (by decide) rfl ?_
   refine Vc rfl rfl (by decide) rfl ?_
   refine Vc rfl rfl (by decide) rfl ?_
   refine Vc rfl rfl (by decide) rfl ?_
   refine Vc rfl rfl (by decide) rfl ?_
   refine Vc rfl rfl (by decide) rfl ?_
   refine Va (Vy rfl rfl) rfl ?_
   refine Va (Vr rfl) rfl ?_
   refine Vc rfl rfl (by decide) rfl ?_
   refine Vc rfl rfl (by decide) rfl ?_
   refine Vc rfl rfl (by decide) rfl ?_
   refine Vc rfl rfl (by decide) rfl ?_
   refine Vc rfl rfl (by decide) rfl ?_
   refine Va (Vy rfl rfl) rfl ?_
   refine Va (Zi rfl) rfl ?_
   refine Ve ?_
   refine Yb ?_
   obtain rfl := Wd hF
   refine fnR ?_
   exact Vm rfl [] (by decide) ⟨Vh rfl (.bool _), trivial⟩ trivial
 ·rintro _ _ _ _ ⟨he, hw⟩
  refine ⟨_, _, _, hw, ?_⟩
  exact Zc he [.bool r] ⟨rfl, trivial⟩ (.bool _) ⟨rfl, rfl⟩

theorem F_law14_walks_S_ok0 {rec0 : T_Mine → (List T_Span) → Int → Int → (List Bool) → Int → Option (List Bool × Bool)} (rec0_ok : ∀ {p0 : T_Mine} {p1 : List T_Span} {p2 : Int} {p3 : Int} {p4 : List Bool} {p5 : Int} {r : List Bool × Bool} (hF : rec0 p0 p1 p2 p3 p4 p5 = some r) {low : List AObj} {q0 w0 : Nat} (hnd : [q0].Nodup) {m0 : Nat} (hm0 : m0 = (p4).length) (hq0 : low[q0]? = some ⟨4, 1, Wa Wc p4, w0⟩) {n : Nat} (hn : low.length = n), Zh Try.prog 15 [.agg [.vs 2 (Wa T_Place.enc p0.Places), .vs 10 (Wa T_Road.enc p0.Roads)], .vs 2 (Wa T_Span.enc p1), .int .i64 p2, .int .i64 p3, .sl q0 w0 0 m0, .int .i64 p5] low fun x low' => x = .bool r.2 ∧ low' = setL low [(q0, ⟨4, 1, Wa Wc r.1, w0⟩)] ++ []) (rec0_len : ∀ {p0 : T_Mine} {p1 : List T_Span} {p2 : Int} {p3 : Int} {p4 : List Bool} {p5 : Int} {r : List Bool × Bool} (hF : rec0 p0 p1 p2 p3 p4 p5 = some r) {m0 : Nat} (hm0 : m0 = (p4).length), m0 = (r.1).length ∧ True) {p0 : T_Mine} {p1 : List T_Span} {p2 : Int} {p3 : Int} {p4 : List Bool} {p5 : Int} {r : List Bool × Bool} (hF : F_law14_walks_S rec0 p0 p1 p2 p3 p4 p5 = some r) {low0 : List AObj} {q0 w0 : Nat} (hB : Bor low0 [q0]) {m0 : Nat} (hm0 : m0 = (p4).length) {n : Nat} (hn : low0.length = n) :
    Zh Try.prog 15 [.agg [.vs 2 (Wa T_Place.enc p0.Places), .vs 10 (Wa T_Road.enc p0.Roads)], .vs 2 (Wa T_Span.enc p1), .int .i64 p2, .int .i64 p3, .sl q0 w0 0 m0, .int .i64 p5] (setL low0 [(q0, ⟨4, 1, Wa Wc p4, w0⟩)]) fun x low' => x = .bool r.2 ∧ low' = setL low0 [(q0, ⟨4, 1, Wa Wc r.1, w0⟩)] ++ [] := by
 refine Xr (nt := 102) (rs := [.tmp 12]) Try.func15 rfl rfl (We rfl) rfl ?_
 have hq0 : q0 < n := hB.ltN hn 0 rfl
 refine Vs (Q' := FnE (fun E' lw lc => m0 = (r.1).length ∧ Xz E' lw lc [(12, .bool r.2)] (setL low0 [(q0, ⟨4, 1, Wa Wc r.1, w0⟩)]) [])) ?_ ?_
 ·unfold F_law14_walks_S at hF
  refine Vf ?_
  refine Vd ?_
  refine Vi (Zx (Vl hn) rfl (v := .agg [.vs 2 (Wa T_Place.enc p0.Places), .vs 10 (Wa T_Road.enc p0.Roads)]) rfl rfl (Wf _) rfl rfl) rfl ?_
  refine Va (Zi rfl) rfl ?_
  refine Ve ?_
  refine Vf ?_
  refine Vf ?_
  refine Vd ?_
  refine Va (Vk rfl) rfl ?_
  refine Va (Vk rfl) rfl ?_
  refine Va (Zk rfl rfl) rfl ?_
  refine Ve ?_
  refine Xi rfl (fun c2 => ?_) (fun c2 => ?_)
  ·have hF := Yq c2 hF
   refine Vf ?_
   refine Vd ?_
   refine Va (Zi rfl) rfl ?_
   refine Ve ?_
   refine Yb ?_
   obtain rfl := Wd hF
   refine And.intro (.inr rfl) (And.intro hm0 ?_)
   exact Vm (Vl hn) [] (by decide) ⟨Vh rfl (.bool _), trivial⟩ trivial
  ·have hF := Yr c2 hF
   refine Xj ?_
   refine Vf ?_
   refine Vf ?_
   obtain ⟨o3, ho3, hF⟩ := Yf hF
   refine Vs (Q' := (fun o3 => OnlyE .normal (fun E' lw lc => Xz E' lw lc [(1, .vs 2 (Wa T_Span.enc p1)), (2, .int .i64 p2), (3, .int .i64 p3), (4, .sl q0 w0 0 m0), (5, .int .i64 p5), (6, .ptr (n + 0) 0 0 0), (27, .bool o3)] (setL low0 [(q0, ⟨4, 1, Wa Wc p4, w0⟩)]) [⟨27, 2, [.agg [.vs 2 (Wa T_Place.enc p0.Places), .vs 10 (Wa T_Road.enc p0.Roads)]], 0⟩])) o3) ?_ ?_
   ·replace hF := ho3
    refine Vd ?_
    rcases Wg (decide (p5 = 0)) with c4 | c4
    ·have hF := Yq c4 hF
     refine Va (Vk rfl) rfl ?_
     refine Va (Zk rfl rfl) rfl ?_
     refine Va (Vr rfl) rfl ?_
     refine Vc rfl rfl (neT c4) rfl ?_
     refine Vc rfl rfl (neT c4) rfl ?_
     refine Vc rfl rfl (neT c4) rfl ?_
     refine Vc rfl rfl (neT c4) rfl ?_
     refine Vc rfl rfl (neT c4) rfl ?_
     refine Vc rfl rfl (neT c4) rfl ?_
     refine Va (Xc (congrArg Wc c4) rfl) rfl ?_
     refine Ve ?_
     obtain rfl := Wd hF
     refine Xk ?_
     exact Vp ⟨rfl, rfl, rfl, rfl, rfl, rfl, rfl, trivial⟩
    ·have hF := Yr c4 hF
     obtain ⟨x5, h6, hF⟩ := Yf hF
     refine Va (Vk rfl) rfl ?_
     refine Va (Zk rfl rfl) rfl ?_
     refine Va (Vr rfl) rfl ?_
     refine Xd rfl rfl c4 ?_
     refine Va (Vb rfl tf_27_0 ts_24 (by decide)) rfl ?_
     refine Xd rfl rfl c4 ?_
     refine Va (Vj rfl (Vg (Vl hn) rfl) rfl ta_24 rfl) rfl ?_
     refine Xd rfl rfl c4 ?_
     refine Va (Vk rfl) rfl ?_
     refine Xd rfl rfl c4 ?_
     refine Va (Xo (Xu rfl rfl h6 te_24 ts_48) (v' := .vptr [.int .i64 x5.Height, .bool x5.Surface] 0) rfl) rfl ?_
     refine Xd rfl rfl c4 ?_
     refine Va (Xq rfl tf_48_1 ts_4 (by decide)) rfl ?_
     refine Xd rfl rfl c4 ?_
     refine Va (Xe rfl ta_4 rfl) rfl ?_
     refine Va (Vy (congrArg Wc c4) rfl) rfl ?_
     refine Ve ?_
     obtain rfl := Wd hF
     refine Xk ?_
     exact Vp ⟨rfl, rfl, rfl, rfl, rfl, rfl, rfl, trivial⟩
   ·rintro _ _ _ _ ⟨rfl, hw⟩
    refine ⟨_, _, _, hw, ?_⟩
    refine Xi rfl (fun c7 => ?_) (fun c7 => ?_)
    ·have hF := Yq c7 hF
     refine Vf ?_
     refine Vd ?_
     refine Va (Zi rfl) rfl ?_
     refine Ve ?_
     refine Yb ?_
     obtain rfl := Wd hF
     refine And.intro (.inr rfl) (And.intro hm0 ?_)
     exact Vm (Vl hn) [] (by decide) ⟨Vh rfl (.bool _), trivial⟩ trivial
    ·have hF := Yr c7 hF
     refine Xj ?_
     refine Vf ?_
     refine Vf ?_
     refine Vd ?_
     refine Va (Vb rfl tf_27_1 ts_25 (by decide)) rfl ?_
     refine Va (Vj rfl (Vg (Vl hn) rfl) rfl ta_25 rfl) rfl ?_
     refine Va (Xo (Yu rfl rfl te_25) (congrArg (fun n : Nat => Wb .i64 (n : Int)) (Wh _))) rfl ?_
     refine Va (Vk rfl) rfl ?_
     refine Ve ?_
     refine Xh ?_
     obtain ⟨o9, ho9, hF⟩ := Yf hF
     refine Vs (Yy (F_law14_walks_S_L1 p0 p1 p2 p3 p5 rec0) (fun s8 E' lw lc => m0 = (s8.2).length ∧ Xz E' lw lc [(1, .vs 2 (Wa T_Span.enc p1)), (2, .int .i64 p2), (3, .int .i64 p3), (4, .sl q0 w0 0 m0), (5, .int .i64 p5), (6, .ptr (n + 0) 0 0 0), (29, .vs 10 (Wa T_Road.enc p0.Roads)), (30, .int .i64 ((p0.Roads).length : Int)), (31, .int .i64 s8.1)] (setL low0 [(q0, ⟨4, 1, Wa Wc s8.2, w0⟩)]) [⟨27, 2, [.agg [.vs 2 (Wa T_Place.enc p0.Places), .vs 10 (Wa T_Road.enc p0.Roads)]], 0⟩]) (Sum.elim (fun j10 => OnlyE .ret (fun E' lw lc => m0 = (j10).length ∧ Xz E' lw lc [(12, .bool true)] (setL low0 [(q0, ⟨4, 1, Wa Wc j10, w0⟩)]) [])) (fun j11 => OnlyE (.exit 0) (fun E' lw lc => m0 = (j11).length ∧ Xz E' lw lc [] (setL low0 [(q0, ⟨4, 1, Wa Wc j11, w0⟩)]) []))) ho9 ⟨hm0, ?_⟩ (by rintro (_|_) _ _ _ ⟨h, _⟩ <;> cases h) ?_) ?_
     ·exact Vp ⟨rfl, rfl, rfl, rfl, rfl, rfl, rfl, rfl, rfl, trivial⟩
     ·rintro s8 os8 _ _ _ hF ⟨hls8_0, hw⟩
      unfold F_law14_walks_S_L1 at hF
      refine Yl hw ?_
      refine Vf ?_
      refine Vd ?_
      refine Va (Yz rfl rfl) rfl ?_
      refine Ve ?_
      refine Vf ?_
      refine Xi rfl (fun c12 => ?_) (fun c12 => ?_)
      ·have hF := Yq c12 hF
       refine Xj ?_
       refine Vf ?_
       obtain ⟨o13, ho13, hF⟩ := Yf hF
       refine Vs (Q' := Sum.elim (fun j14 => OnlyE .ret (fun E' lw lc => m0 = (j14).length ∧ Xz E' lw lc [(12, .bool true)] (setL low0 [(q0, ⟨4, 1, Wa Wc j14, w0⟩)]) [])) (fun j15 => OnlyE .normal (fun E' lw lc => m0 = (j15).length ∧ Xz E' lw lc [(1, .vs 2 (Wa T_Span.enc p1)), (2, .int .i64 p2), (3, .int .i64 p3), (4, .sl q0 w0 0 m0), (5, .int .i64 p5), (6, .ptr (n + 0) 0 0 0), (29, .vs 10 (Wa T_Road.enc p0.Roads)), (30, .int .i64 ((p0.Roads).length : Int)), (31, .int .i64 s8.1)] (setL low0 [(q0, ⟨4, 1, Wa Wc j15, w0⟩)]) [⟨27, 2, [.agg [.vs 2 (Wa T_Place.enc p0.Places), .vs 10 (Wa T_Road.enc p0.Roads)]], 0⟩])) o13) ?_ ?_
       ·replace hF := ho13
        refine Xh ?_
        refine Vf ?_
        refine Vd ?_
        obtain ⟨x16, h17, hF⟩ := Yf hF
        refine Va (Vk rfl) rfl ?_
        refine Va (Xo (Xu rfl rfl h17 te_25 ts_46) (v' := .vptr [.int .i64 x16.From, .int .i64 x16.To, .int .i64 x16.Length, .int .i64 x16.Area, .bool x16.Walk, .bool x16.Closed, .int .i64 x16.Rest.Low, .int .i64 x16.Rest.High, .int .i64 x16.Lift.Low, .int .i64 x16.Lift.High] 0) rfl) rfl ?_
        refine Va (Zo (ds := [.int .i64 x16.From, .int .i64 x16.To, .int .i64 x16.Length, .int .i64 x16.Area, .bool x16.Walk, .bool x16.Closed, .int .i64 x16.Rest.Low, .int .i64 x16.Rest.High, .int .i64 x16.Lift.Low, .int .i64 x16.Lift.High]) rfl ta_46 ts_46 rfl rfl) rfl ?_
        refine Vi (Xm (Vl hn) rfl tz_46 rfl rfl (Wf _) rfl) rfl ?_
        refine Va (Xv rfl) rfl ?_
        refine Vi (Vw (p := .agg [.int .i64 x16.From, .int .i64 x16.To, .int .i64 x16.Length, .int .i64 x16.Area, .bool x16.Walk, .bool x16.Closed, .int .i64 x16.Rest.Low, .int .i64 x16.Rest.High, .int .i64 x16.Lift.Low, .int .i64 x16.Lift.High]) (e' := .agg [.int .i64 x16.From, .int .i64 x16.To, .int .i64 x16.Length, .int .i64 x16.Area, .bool x16.Walk, .bool x16.Closed, .int .i64 x16.Rest.Low, .int .i64 x16.Rest.High, .int .i64 x16.Lift.Low, .int .i64 x16.Lift.High]) rfl (Vg (Vl hn) rfl) rfl rfl ts_46 rfl (Yg rfl) rfl (We rfl) rfl (Xn (Vl hn) rfl)) rfl ?_
        refine Ve ?_
        refine Vf ?_
        refine Vf ?_
        obtain ⟨o18, ho18, hF⟩ := Yf hF
        refine Vs (Q' := (fun o18 => OnlyE .normal (fun E' lw lc => Xz E' lw lc [(1, .vs 2 (Wa T_Span.enc p1)), (2, .int .i64 p2), (3, .int .i64 p3), (4, .sl q0 w0 0 m0), (5, .int .i64 p5), (6, .ptr (n + 1) 0 0 0), (13, .int .i64 s8.1), (14, .ptr (n + 0) 0 0 0), (29, .vs 10 (Wa T_Road.enc p0.Roads)), (30, .int .i64 ((p0.Roads).length : Int)), (31, .int .i64 s8.1), (43, .bool o18)] (setL low0 [(q0, ⟨4, 1, Wa Wc s8.2, w0⟩)]) [⟨46, 10, [.agg [.int .i64 x16.From, .int .i64 x16.To, .int .i64 x16.Length, .int .i64 x16.Area, .bool x16.Walk, .bool x16.Closed, .int .i64 x16.Rest.Low, .int .i64 x16.Rest.High, .int .i64 x16.Lift.Low, .int .i64 x16.Lift.High]], 0⟩, ⟨27, 2, [.agg [.vs 2 (Wa T_Place.enc p0.Places), .vs 10 (Wa T_Road.enc p0.Roads)]], 0⟩])) o18) ?_ ?_
        ·replace hF := ho18
         refine Vd ?_
         obtain ⟨x19, h20, hF⟩ := Yf hF
         rcases Wg x19 with c21 | c21
         ·have hF := Yq c21 hF
          refine Va (Yn rfl) rfl ?_
          refine Va (Vk rfl) rfl ?_
          refine Va (Zr rfl hls8_0 rfl (Ys hB rfl 0 rfl) h20 te_49 ts_4) rfl ?_
          refine Va (Zs rfl (Ys hB rfl 0 rfl) (Yi h20).2 ta_4 rfl) rfl ?_
          refine Va (Vr rfl) rfl ?_
          refine Vc rfl rfl (neT c21) rfl ?_
          refine Vc rfl rfl (neT c21) rfl ?_
          refine Va (Xc (congrArg Wc c21) rfl) rfl ?_
          refine Ve ?_
          obtain rfl := Wd hF
          refine Xk ?_
          exact Vm (Vl hn) [(1, 0), (0, 0)] (by decide) ⟨Vh rfl (.vs _ _), Vh rfl (.int _ _), Vh rfl (.int _ _), Vh rfl (.sl _ _ _ _ hq0), Vh rfl (.int _ _), Vt 1 0 rfl rfl, Vh rfl (.int _ _), Vt 0 1 rfl rfl, Vh rfl (.vs _ _), Vh rfl (.int _ _), Vh rfl (.int _ _), Vh rfl (.bool _), trivial⟩ ⟨⟨_, rfl, rfl, .same _ _ _ _ (Vn ⟨Vo ⟨.int _ _, .int _ _, .int _ _, .int _ _, .bool _, .bool _, .int _ _, .int _ _, .int _ _, .int _ _, trivial⟩, trivial⟩)⟩, ⟨_, rfl, rfl, .same _ _ _ _ (Vn ⟨Vo ⟨.vs _ _, .vs _ _, trivial⟩, trivial⟩)⟩, trivial⟩
         ·have hF := Yr c21 hF
          refine Va (Yn rfl) rfl ?_
          refine Va (Vk rfl) rfl ?_
          refine Va (Zr rfl hls8_0 rfl (Ys hB rfl 0 rfl) h20 te_49 ts_4) rfl ?_
          refine Va (Zs rfl (Ys hB rfl 0 rfl) (Yi h20).2 ta_4 rfl) rfl ?_
          refine Va (Vr rfl) rfl ?_
          refine Xd rfl rfl c21 ?_
          refine Va (Vb rfl tf_46_5 ts_4 (by decide)) rfl ?_
          refine Xd rfl rfl c21 ?_
          refine Va (Vj rfl (Vg (Vl hn) rfl) rfl ta_4 rfl) rfl ?_
          refine Va (Vy (congrArg Wc c21) rfl) rfl ?_
          refine Ve ?_
          obtain rfl := Wd hF
          refine Xk ?_
          exact Vm (Vl hn) [(1, 0), (0, 0)] (by decide) ⟨Vh rfl (.vs _ _), Vh rfl (.int _ _), Vh rfl (.int _ _), Vh rfl (.sl _ _ _ _ hq0), Vh rfl (.int _ _), Vt 1 0 rfl rfl, Vh rfl (.int _ _), Vt 0 1 rfl rfl, Vh rfl (.vs _ _), Vh rfl (.int _ _), Vh rfl (.int _ _), Vh rfl (.bool _), trivial⟩ ⟨⟨_, rfl, rfl, .same _ _ _ _ (Vn ⟨Vo ⟨.int _ _, .int _ _, .int _ _, .int _ _, .bool _, .bool _, .int _ _, .int _ _, .int _ _, .int _ _, trivial⟩, trivial⟩)⟩, ⟨_, rfl, rfl, .same _ _ _ _ (Vn ⟨Vo ⟨.vs _ _, .vs _ _, trivial⟩, trivial⟩)⟩, trivial⟩
        ·rintro _ _ _ _ ⟨rfl, hw⟩
         refine ⟨_, _, _, hw, ?_⟩
         refine Xi rfl (fun c22 => ?_) (fun c22 => ?_)
         ·have hF := Yq c22 hF
          refine Zd ?_
          obtain rfl := Wd hF
          refine And.intro rfl (And.intro hls8_0 ?_)
          exact Vm (Vl hn) [(1, 0)] (by decide) ⟨Vh rfl (.vs _ _), Vh rfl (.int _ _), Vh rfl (.int _ _), Vh rfl (.sl _ _ _ _ hq0), Vh rfl (.int _ _), Vt 0 1 rfl rfl, Vh rfl (.vs _ _), Vh rfl (.int _ _), Vh rfl (.int _ _), trivial⟩ ⟨⟨_, rfl, rfl, .same _ _ _ _ (Vn ⟨Vo ⟨.vs _ _, .vs _ _, trivial⟩, trivial⟩)⟩, trivial⟩
         ·have hF := Yr c22 hF
          refine Xj ?_
          refine Vf ?_
          refine Vd ?_
          obtain ⟨x23, h24, hF⟩ := Yf hF
          refine Va (Yn rfl) rfl ?_
          refine Va (Vk rfl) rfl ?_
          refine Va (Zr rfl hls8_0 rfl (Ys hB rfl 0 rfl) h24 te_49 ts_4) rfl ?_
          refine Vi (vef_stL (p := .bool true) (e' := true) rfl (Ys hB rfl 0 rfl) (Yi h24).2 rfl ts_4 rfl (Yg rfl) (We rfl) rfl (setO_B hB rfl 0 rfl (Vq (fun _ => .bool _)) rfl)) rfl ?_
          refine Ve ?_
          refine Vf ?_
          refine Vf ?_
          obtain ⟨o25, ho25, hF⟩ := Yf hF
          refine Vs (Q' := (fun o25 => OnlyE .normal (fun E' lw lc => m0 = (o25.2).length ∧ Xz E' lw lc [(1, .vs 2 (Wa T_Span.enc p1)), (2, .int .i64 p2), (3, .int .i64 p3), (4, .sl q0 w0 0 m0), (5, .int .i64 p5), (6, .ptr (n + 0) 0 0 0), (13, .int .i64 s8.1), (29, .vs 10 (Wa T_Road.enc p0.Roads)), (30, .int .i64 ((p0.Roads).length : Int)), (31, .int .i64 s8.1), (94, .bool o25.1)] (setL low0 [(q0, ⟨4, 1, Wa Wc o25.2, w0⟩)]) [⟨27, 2, [.agg [.vs 2 (Wa T_Place.enc p0.Places), .vs 10 (Wa T_Road.enc p0.Roads)]], 0⟩])) o25) ?_ ?_
          ·replace hF := ho25
           refine Vd ?_
           rcases Wg (decide (x16.From = p2)) with c26 | c26
           ·have hF := Yq c26 hF
            obtain ⟨x27, h28, hF⟩ := Yf hF
            rcases Wg (decide (0 < x27.High)) with c29 | c29
            ·have hF := Yq c29 hF
             obtain ⟨x30, h31, hF⟩ := Yf hF
             rcases Wg x30.2 with c32 | c32
             ·have hF := Yq c32 hF
              refine Va (Vb rfl tf_46_0 ts_3 (by decide)) rfl ?_
              refine Va (Vj rfl (Vg (Vl hn) rfl) rfl ta_3 rfl) rfl ?_
              refine Va (Vk rfl) rfl ?_
              refine Va (Zk rfl rfl) rfl ?_
              refine Va (Vr rfl) rfl ?_
              refine Xd rfl rfl c26 ?_
              refine Va (Xw rfl) rfl ?_
              refine Xd rfl rfl c26 ?_
              refine Va (Vk rfl) rfl ?_
              refine Xd rfl rfl c26 ?_
              refine Va (Xo (Xu rfl rfl h28 te_23 ts_44) (v' := .vptr [.int .i64 x27.Low, .int .i64 x27.High] 0) rfl) rfl ?_
              refine Xd rfl rfl c26 ?_
              refine Va (Xq rfl tf_44_1 ts_3 (by decide)) rfl ?_
              refine Xd rfl rfl c26 ?_
              refine Va (Xe rfl ta_3 rfl) rfl ?_
              refine Xd rfl rfl c26 ?_
              refine Va (Zq rfl rfl) rfl ?_
              refine Va (Xc (congrArg Wc c26) rfl) rfl ?_
              refine Va (Vr rfl) rfl ?_
              refine Xd rfl rfl c29 ?_
              refine Va (Xa (ds := [.vs 2 (Wa T_Place.enc p0.Places), .vs 10 (Wa T_Road.enc p0.Roads)]) rfl (Vg (Vl hn) rfl) rfl ta_27 ts_27 rfl rfl rfl) rfl ?_
              refine Xd rfl rfl c29 ?_
              refine Va (Xw rfl) rfl ?_
              refine Xd rfl rfl c29 ?_
              refine Va (Vb rfl tf_46_1 ts_3 (by decide)) rfl ?_
              refine Xd rfl rfl c29 ?_
              refine Va (Vj rfl (Vg (Vl hn) rfl) rfl ta_3 rfl) rfl ?_
              refine Xd rfl rfl c29 ?_
              refine Va (Vk rfl) rfl ?_
              refine Xd rfl rfl c29 ?_
              refine Va (Yn rfl) rfl ?_
              refine Xd rfl rfl c29 ?_
              refine Va (Vk rfl) rfl ?_
              refine Xd rfl rfl c29 ?_
              refine Va (Zp rfl rfl rfl) rfl ?_
              refine Xd rfl rfl c29 ?_
              refine Vi (Vz (ps := [(q0, ⟨4, 1, Wa Wc x30.1, w0⟩)]) (r := .bool x30.2) (os := []) (low1 := (setL low0 [(q0, ⟨4, 1, Wa Wc x30.1, w0⟩)])) (loc1 := [⟨46, 10, [.agg [.int .i64 x16.From, .int .i64 x16.To, .int .i64 x16.Length, .int .i64 x16.Area, .bool x16.Walk, .bool x16.Closed, .int .i64 x16.Rest.Low, .int .i64 x16.Rest.High, .int .i64 x16.Lift.Low, .int .i64 x16.Lift.High]], 0⟩, ⟨27, 2, [.agg [.vs 2 (Wa T_Place.enc p0.Places), .vs 10 (Wa T_Road.enc p0.Roads)]], 0⟩]) (loc2 := [⟨46, 10, [.agg [.int .i64 x16.From, .int .i64 x16.To, .int .i64 x16.Length, .int .i64 x16.Area, .bool x16.Walk, .bool x16.Closed, .int .i64 x16.Rest.Low, .int .i64 x16.Rest.High, .int .i64 x16.Lift.Low, .int .i64 x16.Lift.High]], 0⟩, ⟨27, 2, [.agg [.vs 2 (Wa T_Place.enc p0.Places), .vs 10 (Wa T_Road.enc p0.Roads)]], 0⟩]) rfl Try.call15 (rec0_ok h31 (nd1 na0 nd0) (Eq.trans hls8_0 List.length_set.symm) (Zb hB rfl 0 rfl) (Xs (Vl hn) rfl)) (Yk (ps0' := [(q0, ⟨4, 1, Wa Wc x30.1, w0⟩)]) hB rfl 0 rfl (Vq (fun _ => .bool _)) rfl Xf) rfl) rfl ?_
              refine Va (Xc (congrArg Wc c29) rfl) rfl ?_
              refine Va (Vr rfl) rfl ?_
              refine Vc rfl rfl (neT c32) rfl ?_
              refine Vc rfl rfl (neT c32) rfl ?_
              refine Vc rfl rfl (neT c32) rfl ?_
              refine Vc rfl rfl (neT c32) rfl ?_
              refine Vc rfl rfl (neT c32) rfl ?_
              refine Zl rfl rfl rfl ?_
              refine Zl rfl rfl rfl ?_
              refine Zl rfl rfl rfl ?_
              refine Zl rfl rfl rfl ?_
              refine Zl rfl rfl rfl ?_
              refine Zl rfl rfl rfl ?_
              refine Vc rfl rfl (neT c32) rfl ?_
              refine Vc rfl rfl (neT c32) rfl ?_
              refine Zl rfl rfl rfl ?_
              refine Zl rfl rfl rfl ?_
              refine Zl rfl rfl rfl ?_
              refine Zl rfl rfl rfl ?_
              refine Zl rfl rfl rfl ?_
              refine Zl rfl rfl rfl ?_
              refine Zl rfl rfl rfl ?_
              refine Zl rfl rfl rfl ?_
              refine Zl rfl rfl rfl ?_
              refine Vc rfl rfl (neT c32) rfl ?_
              refine Va (Xc (congrArg Wc c32) rfl) rfl ?_
              refine Ve ?_
              obtain rfl := Wd hF
              refine And.intro rfl (And.intro ((rec0_len h31 (Eq.trans hls8_0 List.length_set.symm)).1) ?_)
              exact Vm (Vl hn) [(1, 0)] (by decide) ⟨Vh rfl (.vs _ _), Vh rfl (.int _ _), Vh rfl (.int _ _), Vh rfl (.sl _ _ _ _ hq0), Vh rfl (.int _ _), Vt 0 1 rfl rfl, Vh rfl (.int _ _), Vh rfl (.vs _ _), Vh rfl (.int _ _), Vh rfl (.int _ _), Vh rfl (.bool _), trivial⟩ ⟨⟨_, rfl, rfl, .same _ _ _ _ (Vn ⟨Vo ⟨.vs _ _, .vs _ _, trivial⟩, trivial⟩)⟩, trivial⟩
             ·have hF := Yr c32 hF
              rcases Wg (decide (x16.To = p2)) with c33 | c33
              ·have hF := Yq c33 hF
               obtain ⟨x34, h35, hF⟩ := Yf hF
               rcases Wg (decide (x34.Low < 0)) with c36 | c36
               ·have hF := Yq c36 hF
                obtain ⟨x37, h38, hF⟩ := Yf hF
                refine Va (Vb rfl tf_46_0 ts_3 (by decide)) rfl ?_
                refine Va (Vj rfl (Vg (Vl hn) rfl) rfl ta_3 rfl) rfl ?_
                refine Va (Vk rfl) rfl ?_
                refine Va (Zk rfl rfl) rfl ?_
                refine Va (Vr rfl) rfl ?_
                refine Xd rfl rfl c26 ?_
                refine Va (Xw rfl) rfl ?_
                refine Xd rfl rfl c26 ?_
                refine Va (Vk rfl) rfl ?_
                refine Xd rfl rfl c26 ?_
                refine Va (Xo (Xu rfl rfl h28 te_23 ts_44) (v' := .vptr [.int .i64 x27.Low, .int .i64 x27.High] 0) rfl) rfl ?_
                refine Xd rfl rfl c26 ?_
                refine Va (Xq rfl tf_44_1 ts_3 (by decide)) rfl ?_
                refine Xd rfl rfl c26 ?_
                refine Va (Xe rfl ta_3 rfl) rfl ?_
                refine Xd rfl rfl c26 ?_
                refine Va (Zq rfl rfl) rfl ?_
                refine Va (Xc (congrArg Wc c26) rfl) rfl ?_
                refine Va (Vr rfl) rfl ?_
                refine Xd rfl rfl c29 ?_
                refine Va (Xa (ds := [.vs 2 (Wa T_Place.enc p0.Places), .vs 10 (Wa T_Road.enc p0.Roads)]) rfl (Vg (Vl hn) rfl) rfl ta_27 ts_27 rfl rfl rfl) rfl ?_
                refine Xd rfl rfl c29 ?_
                refine Va (Xw rfl) rfl ?_
                refine Xd rfl rfl c29 ?_
                refine Va (Vb rfl tf_46_1 ts_3 (by decide)) rfl ?_
                refine Xd rfl rfl c29 ?_
                refine Va (Vj rfl (Vg (Vl hn) rfl) rfl ta_3 rfl) rfl ?_
                refine Xd rfl rfl c29 ?_
                refine Va (Vk rfl) rfl ?_
                refine Xd rfl rfl c29 ?_
                refine Va (Yn rfl) rfl ?_
                refine Xd rfl rfl c29 ?_
                refine Va (Vk rfl) rfl ?_
                refine Xd rfl rfl c29 ?_
                refine Va (Zp rfl rfl rfl) rfl ?_
                refine Xd rfl rfl c29 ?_
                refine Vi (Vz (ps := [(q0, ⟨4, 1, Wa Wc x30.1, w0⟩)]) (r := .bool x30.2) (os := []) (low1 := (setL low0 [(q0, ⟨4, 1, Wa Wc x30.1, w0⟩)])) (loc1 := [⟨46, 10, [.agg [.int .i64 x16.From, .int .i64 x16.To, .int .i64 x16.Length, .int .i64 x16.Area, .bool x16.Walk, .bool x16.Closed, .int .i64 x16.Rest.Low, .int .i64 x16.Rest.High, .int .i64 x16.Lift.Low, .int .i64 x16.Lift.High]], 0⟩, ⟨27, 2, [.agg [.vs 2 (Wa T_Place.enc p0.Places), .vs 10 (Wa T_Road.enc p0.Roads)]], 0⟩]) (loc2 := [⟨46, 10, [.agg [.int .i64 x16.From, .int .i64 x16.To, .int .i64 x16.Length, .int .i64 x16.Area, .bool x16.Walk, .bool x16.Closed, .int .i64 x16.Rest.Low, .int .i64 x16.Rest.High, .int .i64 x16.Lift.Low, .int .i64 x16.Lift.High]], 0⟩, ⟨27, 2, [.agg [.vs 2 (Wa T_Place.enc p0.Places), .vs 10 (Wa T_Road.enc p0.Roads)]], 0⟩]) rfl Try.call15 (rec0_ok h31 (nd1 na0 nd0) (Eq.trans hls8_0 List.length_set.symm) (Zb hB rfl 0 rfl) (Xs (Vl hn) rfl)) (Yk (ps0' := [(q0, ⟨4, 1, Wa Wc x30.1, w0⟩)]) hB rfl 0 rfl (Vq (fun _ => .bool _)) rfl Xf) rfl) rfl ?_
                refine Va (Xc (congrArg Wc c29) rfl) rfl ?_
                refine Va (Vr rfl) rfl ?_
                refine Xd rfl rfl c32 ?_
                refine Va (Vb rfl tf_46_1 ts_3 (by decide)) rfl ?_
                refine Xd rfl rfl c32 ?_
                refine Va (Vj rfl (Vg (Vl hn) rfl) rfl ta_3 rfl) rfl ?_
                refine Xd rfl rfl c32 ?_
                refine Va (Vk rfl) rfl ?_
                refine Xd rfl rfl c32 ?_
                refine Va (Zk rfl rfl) rfl ?_
                refine Xd rfl rfl c32 ?_
                refine Va (Vr rfl) rfl ?_
                refine Xd rfl rfl c33 ?_
                refine Va (Xw rfl) rfl ?_
                refine Xd rfl rfl c33 ?_
                refine Va (Vk rfl) rfl ?_
                refine Xd rfl rfl c33 ?_
                refine Va (Xo (Xu rfl rfl h35 te_23 ts_44) (v' := .vptr [.int .i64 x34.Low, .int .i64 x34.High] 0) rfl) rfl ?_
                refine Xd rfl rfl c33 ?_
                refine Va (Xq rfl tf_44_0 ts_3 (by decide)) rfl ?_
                refine Xd rfl rfl c33 ?_
                refine Va (Xe rfl ta_3 rfl) rfl ?_
                refine Xd rfl rfl c33 ?_
                refine Va (Yz rfl rfl) rfl ?_
                refine Xd rfl rfl c32 ?_
                refine Va (Xc (congrArg Wc c33) rfl) rfl ?_
                refine Xd rfl rfl c32 ?_
                refine Va (Vr rfl) rfl ?_
                refine Xd rfl rfl c36 ?_
                refine Va (Xa (ds := [.vs 2 (Wa T_Place.enc p0.Places), .vs 10 (Wa T_Road.enc p0.Roads)]) rfl (Vg (Vl hn) rfl) rfl ta_27 ts_27 rfl rfl rfl) rfl ?_
                refine Xd rfl rfl c36 ?_
                refine Va (Xw rfl) rfl ?_
                refine Xd rfl rfl c36 ?_
                refine Va (Vb rfl tf_46_0 ts_3 (by decide)) rfl ?_
                refine Xd rfl rfl c36 ?_
                refine Va (Vj rfl (Vg (Vl hn) rfl) rfl ta_3 rfl) rfl ?_
                refine Xd rfl rfl c36 ?_
                refine Va (Vk rfl) rfl ?_
                refine Xd rfl rfl c36 ?_
                refine Va (Yn rfl) rfl ?_
                refine Xd rfl rfl c36 ?_
                refine Va (Vk rfl) rfl ?_
                refine Xd rfl rfl c36 ?_
                refine Va (Zp rfl rfl rfl) rfl ?_
                refine Xd rfl rfl c36 ?_
                refine Vi (Vz (ps := [(q0, ⟨4, 1, Wa Wc x37.1, w0⟩)]) (r := .bool x37.2) (os := []) (low1 := (setL low0 [(q0, ⟨4, 1, Wa Wc x37.1, w0⟩)])) (loc1 := [⟨46, 10, [.agg [.int .i64 x16.From, .int .i64 x16.To, .int .i64 x16.Length, .int .i64 x16.Area, .bool x16.Walk, .bool x16.Closed, .int .i64 x16.Rest.Low, .int .i64 x16.Rest.High, .int .i64 x16.Lift.Low, .int .i64 x16.Lift.High]], 0⟩, ⟨27, 2, [.agg [.vs 2 (Wa T_Place.enc p0.Places), .vs 10 (Wa T_Road.enc p0.Roads)]], 0⟩]) (loc2 := [⟨46, 10, [.agg [.int .i64 x16.From, .int .i64 x16.To, .int .i64 x16.Length, .int .i64 x16.Area, .bool x16.Walk, .bool x16.Closed, .int .i64 x16.Rest.Low, .int .i64 x16.Rest.High, .int .i64 x16.Lift.Low, .int .i64 x16.Lift.High]], 0⟩, ⟨27, 2, [.agg [.vs 2 (Wa T_Place.enc p0.Places), .vs 10 (Wa T_Road.enc p0.Roads)]], 0⟩]) rfl Try.call15 (rec0_ok h38 (nd1 na0 nd0) (rec0_len h31 (Eq.trans hls8_0 List.length_set.symm)).1 (Zb hB rfl 0 rfl) (Xs (Vl hn) rfl)) (Yk (ps0' := [(q0, ⟨4, 1, Wa Wc x37.1, w0⟩)]) hB rfl 0 rfl (Vq (fun _ => .bool _)) rfl Xf) rfl) rfl ?_
                refine Xd rfl rfl c32 ?_
                refine Va (Xc (congrArg Wc c36) rfl) rfl ?_
                refine Va (Vy (congrArg Wc c32) rfl) rfl ?_
                refine Ve ?_
                obtain rfl := Wd hF
                refine And.intro rfl (And.intro ((rec0_len h38 (rec0_len h31 (Eq.trans hls8_0 List.length_set.symm)).1).1) ?_)
                exact Vm (Vl hn) [(1, 0)] (by decide) ⟨Vh rfl (.vs _ _), Vh rfl (.int _ _), Vh rfl (.int _ _), Vh rfl (.sl _ _ _ _ hq0), Vh rfl (.int _ _), Vt 0 1 rfl rfl, Vh rfl (.int _ _), Vh rfl (.vs _ _), Vh rfl (.int _ _), Vh rfl (.int _ _), Vh rfl (.bool _), trivial⟩ ⟨⟨_, rfl, rfl, .same _ _ _ _ (Vn ⟨Vo ⟨.vs _ _, .vs _ _, trivial⟩, trivial⟩)⟩, trivial⟩
               ·have hF := Yr c36 hF
                refine Va (Vb rfl tf_46_0 ts_3 (by decide)) rfl ?_
                refine Va (Vj rfl (Vg (Vl hn) rfl) rfl ta_3 rfl) rfl ?_
                refine Va (Vk rfl) rfl ?_
                refine Va (Zk rfl rfl) rfl ?_
                refine Va (Vr rfl) rfl ?_
                refine Xd rfl rfl c26 ?_
                refine Va (Xw rfl) rfl ?_
                refine Xd rfl rfl c26 ?_
                refine Va (Vk rfl) rfl ?_
                refine Xd rfl rfl c26 ?_
                refine Va (Xo (Xu rfl rfl h28 te_23 ts_44) (v' := .vptr [.int .i64 x27.Low, .int .i64 x27.High] 0) rfl) rfl ?_
                refine Xd rfl rfl c26 ?_
                refine Va (Xq rfl tf_44_1 ts_3 (by decide)) rfl ?_
                refine Xd rfl rfl c26 ?_
                refine Va (Xe rfl ta_3 rfl) rfl ?_
                refine Xd rfl rfl c26 ?_
                refine Va (Zq rfl rfl) rfl ?_
                refine Va (Xc (congrArg Wc c26) rfl) rfl ?_
                refine Va (Vr rfl) rfl ?_
                refine Xd rfl rfl c29 ?_
                refine Va (Xa (ds := [.vs 2 (Wa T_Place.enc p0.Places), .vs 10 (Wa T_Road.enc p0.Roads)]) rfl (Vg (Vl hn) rfl) rfl ta_27 ts_27 rfl rfl rfl) rfl ?_
                refine Xd rfl rfl c29 ?_
                refine Va (Xw rfl) rfl ?_
                refine Xd rfl rfl c29 ?_
                refine Va (Vb rfl tf_46_1 ts_3 (by decide)) rfl ?_
                refine Xd rfl rfl c29 ?_
                refine Va (Vj rfl (Vg (Vl hn) rfl) rfl ta_3 rfl) rfl ?_
                refine Xd rfl rfl c29 ?_
                refine Va (Vk rfl) rfl ?_
                refine Xd rfl rfl c29 ?_
                refine Va (Yn rfl) rfl ?_
                refine Xd rfl rfl c29 ?_
                refine Va (Vk rfl) rfl ?_
                refine Xd rfl rfl c29 ?_
                refine Va (Zp rfl rfl rfl) rfl ?_
                refine Xd rfl rfl c29 ?_
                refine Vi (Vz (ps := [(q0, ⟨4, 1, Wa Wc x30.1, w0⟩)]) (r := .bool x30.2) (os := []) (low1 := (setL low0 [(q0, ⟨4, 1, Wa Wc x30.1, w0⟩)])) (loc1 := [⟨46, 10, [.agg [.int .i64 x16.From, .int .i64 x16.To, .int .i64 x16.Length, .int .i64 x16.Area, .bool x16.Walk, .bool x16.Closed, .int .i64 x16.Rest.Low, .int .i64 x16.Rest.High, .int .i64 x16.Lift.Low, .int .i64 x16.Lift.High]], 0⟩, ⟨27, 2, [.agg [.vs 2 (Wa T_Place.enc p0.Places), .vs 10 (Wa T_Road.enc p0.Roads)]], 0⟩]) (loc2 := [⟨46, 10, [.agg [.int .i64 x16.From, .int .i64 x16.To, .int .i64 x16.Length, .int .i64 x16.Area, .bool x16.Walk, .bool x16.Closed, .int .i64 x16.Rest.Low, .int .i64 x16.Rest.High, .int .i64 x16.Lift.Low, .int .i64 x16.Lift.High]], 0⟩, ⟨27, 2, [.agg [.vs 2 (Wa T_Place.enc p0.Places), .vs 10 (Wa T_Road.enc p0.Roads)]], 0⟩]) rfl Try.call15 (rec0_ok h31 (nd1 na0 nd0) (Eq.trans hls8_0 List.length_set.symm) (Zb hB rfl 0 rfl) (Xs (Vl hn) rfl)) (Yk (ps0' := [(q0, ⟨4, 1, Wa Wc x30.1, w0⟩)]) hB rfl 0 rfl (Vq (fun _ => .bool _)) rfl Xf) rfl) rfl ?_
                refine Va (Xc (congrArg Wc c29) rfl) rfl ?_
                refine Va (Vr rfl) rfl ?_
                refine Xd rfl rfl c32 ?_
                refine Va (Vb rfl tf_46_1 ts_3 (by decide)) rfl ?_
                refine Xd rfl rfl c32 ?_
                refine Va (Vj rfl (Vg (Vl hn) rfl) rfl ta_3 rfl) rfl ?_
                refine Xd rfl rfl c32 ?_
                refine Va (Vk rfl) rfl ?_
                refine Xd rfl rfl c32 ?_
                refine Va (Zk rfl rfl) rfl ?_
                refine Xd rfl rfl c32 ?_
                refine Va (Vr rfl) rfl ?_
                refine Xd rfl rfl c33 ?_
                refine Va (Xw rfl) rfl ?_
                refine Xd rfl rfl c33 ?_
                refine Va (Vk rfl) rfl ?_
                refine Xd rfl rfl c33 ?_
                refine Va (Xo (Xu rfl rfl h35 te_23 ts_44) (v' := .vptr [.int .i64 x34.Low, .int .i64 x34.High] 0) rfl) rfl ?_
                refine Xd rfl rfl c33 ?_
                refine Va (Xq rfl tf_44_0 ts_3 (by decide)) rfl ?_
                refine Xd rfl rfl c33 ?_
                refine Va (Xe rfl ta_3 rfl) rfl ?_
                refine Xd rfl rfl c33 ?_
                refine Va (Yz rfl rfl) rfl ?_
                refine Xd rfl rfl c32 ?_
                refine Va (Xc (congrArg Wc c33) rfl) rfl ?_
                refine Xd rfl rfl c32 ?_
                refine Va (Vr rfl) rfl ?_
                refine Vc rfl rfl (Ze c36) rfl ?_
                refine Vc rfl rfl (Ze c36) rfl ?_
                refine Vc rfl rfl (Ze c36) rfl ?_
                refine Vc rfl rfl (Ze c36) rfl ?_
                refine Vc rfl rfl (Ze c36) rfl ?_
                refine Vc rfl rfl (Ze c36) rfl ?_
                refine Vc rfl rfl (Ze c36) rfl ?_
                refine Vc rfl rfl (Ze c36) rfl ?_
                refine Vc rfl rfl (Ze c36) rfl ?_
                refine Xd rfl rfl c32 ?_
                refine Va (Vy (congrArg Wc c36) rfl) rfl ?_
                refine Va (Vy (congrArg Wc c32) rfl) rfl ?_
                refine Ve ?_
                obtain rfl := Wd hF
                refine And.intro rfl (And.intro ((rec0_len h31 (Eq.trans hls8_0 List.length_set.symm)).1) ?_)
                exact Vm (Vl hn) [(1, 0)] (by decide) ⟨Vh rfl (.vs _ _), Vh rfl (.int _ _), Vh rfl (.int _ _), Vh rfl (.sl _ _ _ _ hq0), Vh rfl (.int _ _), Vt 0 1 rfl rfl, Vh rfl (.int _ _), Vh rfl (.vs _ _), Vh rfl (.int _ _), Vh rfl (.int _ _), Vh rfl (.bool _), trivial⟩ ⟨⟨_, rfl, rfl, .same _ _ _ _ (Vn ⟨Vo ⟨.vs _ _, .vs _ _, trivial⟩, trivial⟩)⟩, trivial⟩
              ·have hF := Yr c33 hF
               refine Va (Vb rfl tf_46_0 ts_3 (by decide)) rfl ?_
               refine Va (Vj rfl (Vg (Vl hn) rfl) rfl ta_3 rfl) rfl ?_
               refine Va (Vk rfl) rfl ?_
               refine Va (Zk rfl rfl) rfl ?_
               refine Va (Vr rfl) rfl ?_
               refine Xd rfl rfl c26 ?_
               refine Va (Xw rfl) rfl ?_
               refine Xd rfl rfl c26 ?_
               refine Va (Vk rfl) rfl ?_
               refine Xd rfl rfl c26 ?_
               refine Va (Xo (Xu rfl rfl h28 te_23 ts_44) (v' := .vptr [.int .i64 x27.Low, .int .i64 x27.High] 0) rfl) rfl ?_
               refine Xd rfl rfl c26 ?_
               refine Va (Xq rfl tf_44_1 ts_3 (by decide)) rfl ?_
               refine Xd rfl rfl c26 ?_
               refine Va (Xe rfl ta_3 rfl) rfl ?_
               refine Xd rfl rfl c26 ?_
               refine Va (Zq rfl rfl) rfl ?_
               refine Va (Xc (congrArg Wc c26) rfl) rfl ?_
               refine Va (Vr rfl) rfl ?_
               refine Xd rfl rfl c29 ?_
               refine Va (Xa (ds := [.vs 2 (Wa T_Place.enc p0.Places), .vs 10 (Wa T_Road.enc p0.Roads)]) rfl (Vg (Vl hn) rfl) rfl ta_27 ts_27 rfl rfl rfl) rfl ?_
               refine Xd rfl rfl c29 ?_
               refine Va (Xw rfl) rfl ?_
               refine Xd rfl rfl c29 ?_
               refine Va (Vb rfl tf_46_1 ts_3 (by decide)) rfl ?_
               refine Xd rfl rfl c29 ?_
               refine Va (Vj rfl (Vg (Vl hn) rfl) rfl ta_3 rfl) rfl ?_
               refine Xd rfl rfl c29 ?_
               refine Va (Vk rfl) rfl ?_
               refine Xd rfl rfl c29 ?_
               refine Va (Yn rfl) rfl ?_
               refine Xd rfl rfl c29 ?_
               refine Va (Vk rfl) rfl ?_
               refine Xd rfl rfl c29 ?_
               refine Va (Zp rfl rfl rfl) rfl ?_
               refine Xd rfl rfl c29 ?_
               refine Vi (Vz (ps := [(q0, ⟨4, 1, Wa Wc x30.1, w0⟩)]) (r := .bool x30.2) (os := []) (low1 := (setL low0 [(q0, ⟨4, 1, Wa Wc x30.1, w0⟩)])) (loc1 := [⟨46, 10, [.agg [.int .i64 x16.From, .int .i64 x16.To, .int .i64 x16.Length, .int .i64 x16.Area, .bool x16.Walk, .bool x16.Closed, .int .i64 x16.Rest.Low, .int .i64 x16.Rest.High, .int .i64 x16.Lift.Low, .int .i64 x16.Lift.High]], 0⟩, ⟨27, 2, [.agg [.vs 2 (Wa T_Place.enc p0.Places), .vs 10 (Wa T_Road.enc p0.Roads)]], 0⟩]) (loc2 := [⟨46, 10, [.agg [.int .i64 x16.From, .int .i64 x16.To, .int .i64 x16.Length, .int .i64 x16.Area, .bool x16.Walk, .bool x16.Closed, .int .i64 x16.Rest.Low, .int .i64 x16.Rest.High, .int .i64 x16.Lift.Low, .int .i64 x16.Lift.High]], 0⟩, ⟨27, 2, [.agg [.vs 2 (Wa T_Place.enc p0.Places), .vs 10 (Wa T_Road.enc p0.Roads)]], 0⟩]) rfl Try.call15 (rec0_ok h31 (nd1 na0 nd0) (Eq.trans hls8_0 List.length_set.symm) (Zb hB rfl 0 rfl) (Xs (Vl hn) rfl)) (Yk (ps0' := [(q0, ⟨4, 1, Wa Wc x30.1, w0⟩)]) hB rfl 0 rfl (Vq (fun _ => .bool _)) rfl Xf) rfl) rfl ?_
               refine Va (Xc (congrArg Wc c29) rfl) rfl ?_
               refine Va (Vr rfl) rfl ?_
               refine Xd rfl rfl c32 ?_
               refine Va (Vb rfl tf_46_1 ts_3 (by decide)) rfl ?_
               refine Xd rfl rfl c32 ?_
               refine Va (Vj rfl (Vg (Vl hn) rfl) rfl ta_3 rfl) rfl ?_
               refine Xd rfl rfl c32 ?_
               refine Va (Vk rfl) rfl ?_
               refine Xd rfl rfl c32 ?_
               refine Va (Zk rfl rfl) rfl ?_
               refine Xd rfl rfl c32 ?_
               refine Va (Vr rfl) rfl ?_
               refine Vc rfl rfl (Ze c33) rfl ?_
               refine Vc rfl rfl (Ze c33) rfl ?_
               refine Vc rfl rfl (Ze c33) rfl ?_
               refine Vc rfl rfl (Ze c33) rfl ?_
               refine Vc rfl rfl (Ze c33) rfl ?_
               refine Vc rfl rfl (Ze c33) rfl ?_
               refine Xd rfl rfl c32 ?_
               refine Va (Vy (congrArg Wc c33) rfl) rfl ?_
               refine Xd rfl rfl c32 ?_
               refine Va (Vr rfl) rfl ?_
               refine Vc rfl rfl (by decide) rfl ?_
               refine Vc rfl rfl (by decide) rfl ?_
               refine Vc rfl rfl (by decide) rfl ?_
               refine Vc rfl rfl (by decide) rfl ?_
               refine Vc rfl rfl (by decide) rfl ?_
               refine Vc rfl rfl (by decide) rfl ?_
               refine Vc rfl rfl (by decide) rfl ?_
               refine Vc rfl rfl (by decide) rfl ?_
               refine Vc rfl rfl (by decide) rfl ?_
               refine Xd rfl rfl c32 ?_
               refine Va (Vy rfl rfl) rfl ?_
               refine Va (Vy (congrArg Wc c32) rfl) rfl ?_
               refine Ve ?_
               obtain rfl := Wd hF
               refine And.intro rfl (And.intro ((rec0_len h31 (Eq.trans hls8_0 List.length_set.symm)).1) ?_)
               exact Vm (Vl hn) [(1, 0)] (by decide) ⟨Vh rfl (.vs _ _), Vh rfl (.int _ _), Vh rfl (.int _ _), Vh rfl (.sl _ _ _ _ hq0), Vh rfl (.int _ _), Vt 0 1 rfl rfl, Vh rfl (.int _ _), Vh rfl (.vs _ _), Vh rfl (.int _ _), Vh rfl (.int _ _), Vh rfl (.bool _), trivial⟩ ⟨⟨_, rfl, rfl, .same _ _ _ _ (Vn ⟨Vo ⟨.vs _ _, .vs _ _, trivial⟩, trivial⟩)⟩, trivial⟩
            ·have hF := Yr c29 hF
             rcases Wg (decide (x16.To = p2)) with c39 | c39
             ·have hF := Yq c39 hF
              obtain ⟨x40, h41, hF⟩ := Yf hF
              rcases Wg (decide (x40.Low < 0)) with c42 | c42
              ·have hF := Yq c42 hF
               obtain ⟨x43, h44, hF⟩ := Yf hF
               refine Va (Vb rfl tf_46_0 ts_3 (by decide)) rfl ?_
               refine Va (Vj rfl (Vg (Vl hn) rfl) rfl ta_3 rfl) rfl ?_
               refine Va (Vk rfl) rfl ?_
               refine Va (Zk rfl rfl) rfl ?_
               refine Va (Vr rfl) rfl ?_
               refine Xd rfl rfl c26 ?_
               refine Va (Xw rfl) rfl ?_
               refine Xd rfl rfl c26 ?_
               refine Va (Vk rfl) rfl ?_
               refine Xd rfl rfl c26 ?_
               refine Va (Xo (Xu rfl rfl h28 te_23 ts_44) (v' := .vptr [.int .i64 x27.Low, .int .i64 x27.High] 0) rfl) rfl ?_
               refine Xd rfl rfl c26 ?_
               refine Va (Xq rfl tf_44_1 ts_3 (by decide)) rfl ?_
               refine Xd rfl rfl c26 ?_
               refine Va (Xe rfl ta_3 rfl) rfl ?_
               refine Xd rfl rfl c26 ?_
               refine Va (Zq rfl rfl) rfl ?_
               refine Va (Xc (congrArg Wc c26) rfl) rfl ?_
               refine Va (Vr rfl) rfl ?_
               refine Vc rfl rfl (Ze c29) rfl ?_
               refine Vc rfl rfl (Ze c29) rfl ?_
               refine Vc rfl rfl (Ze c29) rfl ?_
               refine Vc rfl rfl (Ze c29) rfl ?_
               refine Vc rfl rfl (Ze c29) rfl ?_
               refine Vc rfl rfl (Ze c29) rfl ?_
               refine Vc rfl rfl (Ze c29) rfl ?_
               refine Vc rfl rfl (Ze c29) rfl ?_
               refine Vc rfl rfl (Ze c29) rfl ?_
               refine Va (Vy (congrArg Wc c29) rfl) rfl ?_
               refine Va (Vr rfl) rfl ?_
               refine Xl rfl rfl ?_
               refine Va (Vb rfl tf_46_1 ts_3 (by decide)) rfl ?_
               refine Xl rfl rfl ?_
               refine Va (Vj rfl (Vg (Vl hn) rfl) rfl ta_3 rfl) rfl ?_
               refine Xl rfl rfl ?_
               refine Va (Vk rfl) rfl ?_
               refine Xl rfl rfl ?_
               refine Va (Zk rfl rfl) rfl ?_
               refine Xl rfl rfl ?_
               refine Va (Vr rfl) rfl ?_
               refine Xd rfl rfl c39 ?_
               refine Va (Xw rfl) rfl ?_
               refine Xd rfl rfl c39 ?_
               refine Va (Vk rfl) rfl ?_
               refine Xd rfl rfl c39 ?_
               refine Va (Xo (Xu rfl rfl h41 te_23 ts_44) (v' := .vptr [.int .i64 x40.Low, .int .i64 x40.High] 0) rfl) rfl ?_
               refine Xd rfl rfl c39 ?_
               refine Va (Xq rfl tf_44_0 ts_3 (by decide)) rfl ?_
               refine Xd rfl rfl c39 ?_
               refine Va (Xe rfl ta_3 rfl) rfl ?_
               refine Xd rfl rfl c39 ?_
               refine Va (Yz rfl rfl) rfl ?_
               refine Xl rfl rfl ?_
               refine Va (Xc (congrArg Wc c39) rfl) rfl ?_
               refine Xl rfl rfl ?_
               refine Va (Vr rfl) rfl ?_
               refine Xd rfl rfl c42 ?_
               refine Va (Xa (ds := [.vs 2 (Wa T_Place.enc p0.Places), .vs 10 (Wa T_Road.enc p0.Roads)]) rfl (Vg (Vl hn) rfl) rfl ta_27 ts_27 rfl rfl rfl) rfl ?_
               refine Xd rfl rfl c42 ?_
               refine Va (Xw rfl) rfl ?_
               refine Xd rfl rfl c42 ?_
               refine Va (Vb rfl tf_46_0 ts_3 (by decide)) rfl ?_
               refine Xd rfl rfl c42 ?_
               refine Va (Vj rfl (Vg (Vl hn) rfl) rfl ta_3 rfl) rfl ?_
               refine Xd rfl rfl c42 ?_
               refine Va (Vk rfl) rfl ?_
               refine Xd rfl rfl c42 ?_
               refine Va (Yn rfl) rfl ?_
               refine Xd rfl rfl c42 ?_
               refine Va (Vk rfl) rfl ?_
               refine Xd rfl rfl c42 ?_
               refine Va (Zp rfl rfl rfl) rfl ?_
               refine Xd rfl rfl c42 ?_
               refine Vi (Vz (ps := [(q0, ⟨4, 1, Wa Wc x43.1, w0⟩)]) (r := .bool x43.2) (os := []) (low1 := (setL low0 [(q0, ⟨4, 1, Wa Wc x43.1, w0⟩)])) (loc1 := [⟨46, 10, [.agg [.int .i64 x16.From, .int .i64 x16.To, .int .i64 x16.Length, .int .i64 x16.Area, .bool x16.Walk, .bool x16.Closed, .int .i64 x16.Rest.Low, .int .i64 x16.Rest.High, .int .i64 x16.Lift.Low, .int .i64 x16.Lift.High]], 0⟩, ⟨27, 2, [.agg [.vs 2 (Wa T_Place.enc p0.Places), .vs 10 (Wa T_Road.enc p0.Roads)]], 0⟩]) (loc2 := [⟨46, 10, [.agg [.int .i64 x16.From, .int .i64 x16.To, .int .i64 x16.Length, .int .i64 x16.Area, .bool x16.Walk, .bool x16.Closed, .int .i64 x16.Rest.Low, .int .i64 x16.Rest.High, .int .i64 x16.Lift.Low, .int .i64 x16.Lift.High]], 0⟩, ⟨27, 2, [.agg [.vs 2 (Wa T_Place.enc p0.Places), .vs 10 (Wa T_Road.enc p0.Roads)]], 0⟩]) rfl Try.call15 (rec0_ok h44 (nd1 na0 nd0) (Eq.trans hls8_0 List.length_set.symm) (Zb hB rfl 0 rfl) (Xs (Vl hn) rfl)) (Yk (ps0' := [(q0, ⟨4, 1, Wa Wc x43.1, w0⟩)]) hB rfl 0 rfl (Vq (fun _ => .bool _)) rfl Xf) rfl) rfl ?_
               refine Xl rfl rfl ?_
               refine Va (Xc (congrArg Wc c42) rfl) rfl ?_
               refine Va (Vy rfl rfl) rfl ?_
               refine Ve ?_
               obtain rfl := Wd hF
               refine And.intro rfl (And.intro ((rec0_len h44 (Eq.trans hls8_0 List.length_set.symm)).1) ?_)
               exact Vm (Vl hn) [(1, 0)] (by decide) ⟨Vh rfl (.vs _ _), Vh rfl (.int _ _), Vh rfl (.int _ _), Vh rfl (.sl _ _ _ _ hq0), Vh rfl (.int _ _), Vt 0 1 rfl rfl, Vh rfl (.int _ _), Vh rfl (.vs _ _), Vh rfl (.int _ _), Vh rfl (.int _ _), Vh rfl (.bool _), trivial⟩ ⟨⟨_, rfl, rfl, .same _ _ _ _ (Vn ⟨Vo ⟨.vs _ _, .vs _ _, trivial⟩, trivial⟩)⟩, trivial⟩
              ·have hF := Yr c42 hF
               refine Va (Vb rfl tf_46_0 ts_3 (by decide)) rfl ?_
               refine Va (Vj rfl (Vg (Vl hn) rfl) rfl ta_3 rfl) rfl ?_
               refine Va (Vk rfl) rfl ?_
               refine Va (Zk rfl rfl) rfl ?_
               refine Va (Vr rfl) rfl ?_
               refine Xd rfl rfl c26 ?_
               refine Va (Xw rfl) rfl ?_
               refine Xd rfl rfl c26 ?_
               refine Va (Vk rfl) rfl ?_
               refine Xd rfl rfl c26 ?_
               refine Va (Xo (Xu rfl rfl h28 te_23 ts_44) (v' := .vptr [.int .i64 x27.Low, .int .i64 x27.High] 0) rfl) rfl ?_
               refine Xd rfl rfl c26 ?_
               refine Va (Xq rfl tf_44_1 ts_3 (by decide)) rfl ?_
               refine Xd rfl rfl c26 ?_
               refine Va (Xe rfl ta_3 rfl) rfl ?_
               refine Xd rfl rfl c26 ?_
               refine Va (Zq rfl rfl) rfl ?_
               refine Va (Xc (congrArg Wc c26) rfl) rfl ?_
               refine Va (Vr rfl) rfl ?_
               refine Vc rfl rfl (Ze c29) rfl ?_
               refine Vc rfl rfl (Ze c29) rfl ?_
               refine Vc rfl rfl (Ze c29) rfl ?_
               refine Vc rfl rfl (Ze c29) rfl ?_
               refine Vc rfl rfl (Ze c29) rfl ?_
               refine Vc rfl rfl (Ze c29) rfl ?_
               refine Vc rfl rfl (Ze c29) rfl ?_
               refine Vc rfl rfl (Ze c29) rfl ?_
               refine Vc rfl rfl (Ze c29) rfl ?_
               refine Va (Vy (congrArg Wc c29) rfl) rfl ?_
               refine Va (Vr rfl) rfl ?_
               refine Xl rfl rfl ?_
               refine Va (Vb rfl tf_46_1 ts_3 (by decide)) rfl ?_
               refine Xl rfl rfl ?_
               refine Va (Vj rfl (Vg (Vl hn) rfl) rfl ta_3 rfl) rfl ?_
               refine Xl rfl rfl ?_
               refine Va (Vk rfl) rfl ?_
               refine Xl rfl rfl ?_
               refine Va (Zk rfl rfl) rfl ?_
               refine Xl rfl rfl ?_
               refine Va (Vr rfl) rfl ?_
               refine Xd rfl rfl c39 ?_
               refine Va (Xw rfl) rfl ?_
               refine Xd rfl rfl c39 ?_
               refine Va (Vk rfl) rfl ?_
               refine Xd rfl rfl c39 ?_
               refine Va (Xo (Xu rfl rfl h41 te_23 ts_44) (v' := .vptr [.int .i64 x40.Low, .int .i64 x40.High] 0) rfl) rfl ?_
               refine Xd rfl rfl c39 ?_
               refine Va (Xq rfl tf_44_0 ts_3 (by decide)) rfl ?_
               refine Xd rfl rfl c39 ?_
               refine Va (Xe rfl ta_3 rfl) rfl ?_
               refine Xd rfl rfl c39 ?_
               refine Va (Yz rfl rfl) rfl ?_
               refine Xl rfl rfl ?_
               refine Va (Xc (congrArg Wc c39) rfl) rfl ?_
               refine Xl rfl rfl ?_
               refine Va (Vr rfl) rfl ?_
               refine Vc rfl rfl (Ze c42) rfl ?_
               refine Vc rfl rfl (Ze c42) rfl ?_
               refine Vc rfl rfl (Ze c42) rfl ?_
               refine Vc rfl rfl (Ze c42) rfl ?_
               refine Vc rfl rfl (Ze c42) rfl ?_
               refine Vc rfl rfl (Ze c42) rfl ?_
               refine Vc rfl rfl (Ze c42) rfl ?_
               refine Vc rfl rfl (Ze c42) rfl ?_
               refine Vc rfl rfl (Ze c42) rfl ?_
               refine Xl rfl rfl ?_
               refine Va (Vy (congrArg Wc c42) rfl) rfl ?_
               refine Va (Vy rfl rfl) rfl ?_
               refine Ve ?_
               obtain rfl := Wd hF
               refine And.intro rfl (And.intro (Eq.trans hls8_0 List.length_set.symm) ?_)
               exact Vm (Vl hn) [(1, 0)] (by decide) ⟨Vh rfl (.vs _ _), Vh rfl (.int _ _), Vh rfl (.int _ _), Vh rfl (.sl _ _ _ _ hq0), Vh rfl (.int _ _), Vt 0 1 rfl rfl, Vh rfl (.int _ _), Vh rfl (.vs _ _), Vh rfl (.int _ _), Vh rfl (.int _ _), Vh rfl (.bool _), trivial⟩ ⟨⟨_, rfl, rfl, .same _ _ _ _ (Vn ⟨Vo ⟨.vs _ _, .vs _ _, trivial⟩, trivial⟩)⟩, trivial⟩
             ·have hF := Yr c39 hF
              refine Va (Vb rfl tf_46_0 ts_3 (by decide)) rfl ?_
              refine Va (Vj rfl (Vg (Vl hn) rfl) rfl ta_3 rfl) rfl ?_
              refine Va (Vk rfl) rfl ?_
              refine Va (Zk rfl rfl) rfl ?_
              refine Va (Vr rfl) rfl ?_
              refine Xd rfl rfl c26 ?_
              refine Va (Xw rfl) rfl ?_
              refine Xd rfl rfl c26 ?_
              refine Va (Vk rfl) rfl ?_
              refine Xd rfl rfl c26 ?_
              refine Va (Xo (Xu rfl rfl h28 te_23 ts_44) (v' := .vptr [.int .i64 x27.Low, .int .i64 x27.High] 0) rfl) rfl ?_
              refine Xd rfl rfl c26 ?_
              refine Va (Xq rfl tf_44_1 ts_3 (by decide)) rfl ?_
              refine Xd rfl rfl c26 ?_
              refine Va (Xe rfl ta_3 rfl) rfl ?_
              refine Xd rfl rfl c26 ?_
              refine Va (Zq rfl rfl) rfl ?_
              refine Va (Xc (congrArg Wc c26) rfl) rfl ?_
              refine Va (Vr rfl) rfl ?_
              refine Vc rfl rfl (Ze c29) rfl ?_
              refine Vc rfl rfl (Ze c29) rfl ?_
              refine Vc rfl rfl (Ze c29) rfl ?_
              refine Vc rfl rfl (Ze c29) rfl ?_
              refine Vc rfl rfl (Ze c29) rfl ?_
              refine Vc rfl rfl (Ze c29) rfl ?_
              refine Vc rfl rfl (Ze c29) rfl ?_
              refine Vc rfl rfl (Ze c29) rfl ?_
              refine Vc rfl rfl (Ze c29) rfl ?_
              refine Va (Vy (congrArg Wc c29) rfl) rfl ?_
              refine Va (Vr rfl) rfl ?_
              refine Xl rfl rfl ?_
              refine Va (Vb rfl tf_46_1 ts_3 (by decide)) rfl ?_
              refine Xl rfl rfl ?_
              refine Va (Vj rfl (Vg (Vl hn) rfl) rfl ta_3 rfl) rfl ?_
              refine Xl rfl rfl ?_
              refine Va (Vk rfl) rfl ?_
              refine Xl rfl rfl ?_
              refine Va (Zk rfl rfl) rfl ?_
              refine Xl rfl rfl ?_
              refine Va (Vr rfl) rfl ?_
              refine Vc rfl rfl (Ze c39) rfl ?_
              refine Vc rfl rfl (Ze c39) rfl ?_
              refine Vc rfl rfl (Ze c39) rfl ?_
              refine Vc rfl rfl (Ze c39) rfl ?_
              refine Vc rfl rfl (Ze c39) rfl ?_
              refine Vc rfl rfl (Ze c39) rfl ?_
              refine Xl rfl rfl ?_
              refine Va (Vy (congrArg Wc c39) rfl) rfl ?_
              refine Xl rfl rfl ?_
              refine Va (Vr rfl) rfl ?_
              refine Vc rfl rfl (by decide) rfl ?_
              refine Vc rfl rfl (by decide) rfl ?_
              refine Vc rfl rfl (by decide) rfl ?_
              refine Vc rfl rfl (by decide) rfl ?_
              refine Vc rfl rfl (by decide) rfl ?_
              refine Vc rfl rfl (by decide) rfl ?_
              refine Vc rfl rfl (by decide) rfl ?_
              refine Vc rfl rfl (by decide) rfl ?_
              refine Vc rfl rfl (by decide) rfl ?_
              refine Xl rfl rfl ?_
              refine Va (Vy rfl rfl) rfl ?_
              refine Va (Vy rfl rfl) rfl ?_
              refine Ve ?_
              obtain rfl := Wd hF
              refine And.intro rfl (And.intro (Eq.trans hls8_0 List.length_set.symm) ?_)
              exact Vm (Vl hn) [(1, 0)] (by decide) ⟨Vh rfl (.vs _ _), Vh rfl (.int _ _), Vh rfl (.int _ _), Vh rfl (.sl _ _ _ _ hq0), Vh rfl (.int _ _), Vt 0 1 rfl rfl, Vh rfl (.int _ _), Vh rfl (.vs _ _), Vh rfl (.int _ _), Vh rfl (.int _ _), Vh rfl (.bool _), trivial⟩ ⟨⟨_, rfl, rfl, .same _ _ _ _ (Vn ⟨Vo ⟨.vs _ _, .vs _ _, trivial⟩, trivial⟩)⟩, trivial⟩
           ·have hF := Yr c26 hF
            rcases Wg (decide (x16.To = p2)) with c45 | c45
            ·have hF := Yq c45 hF
             obtain ⟨x46, h47, hF⟩ := Yf hF
             rcases Wg (decide (x46.Low < 0)) with c48 | c48
             ·have hF := Yq c48 hF
              obtain ⟨x49, h50, hF⟩ := Yf hF
              refine Va (Vb rfl tf_46_0 ts_3 (by decide)) rfl ?_
              refine Va (Vj rfl (Vg (Vl hn) rfl) rfl ta_3 rfl) rfl ?_
              refine Va (Vk rfl) rfl ?_
              refine Va (Zk rfl rfl) rfl ?_
              refine Va (Vr rfl) rfl ?_
              refine Vc rfl rfl (Ze c26) rfl ?_
              refine Vc rfl rfl (Ze c26) rfl ?_
              refine Vc rfl rfl (Ze c26) rfl ?_
              refine Vc rfl rfl (Ze c26) rfl ?_
              refine Vc rfl rfl (Ze c26) rfl ?_
              refine Vc rfl rfl (Ze c26) rfl ?_
              refine Va (Vy (congrArg Wc c26) rfl) rfl ?_
              refine Va (Vr rfl) rfl ?_
              refine Vc rfl rfl (by decide) rfl ?_
              refine Vc rfl rfl (by decide) rfl ?_
              refine Vc rfl rfl (by decide) rfl ?_
              refine Vc rfl rfl (by decide) rfl ?_
              refine Vc rfl rfl (by decide) rfl ?_
              refine Vc rfl rfl (by decide) rfl ?_
              refine Vc rfl rfl (by decide) rfl ?_
              refine Vc rfl rfl (by decide) rfl ?_
              refine Vc rfl rfl (by decide) rfl ?_
              refine Va (Vy rfl rfl) rfl ?_
              refine Va (Vr rfl) rfl ?_
              refine Xl rfl rfl ?_
              refine Va (Vb rfl tf_46_1 ts_3 (by decide)) rfl ?_
              refine Xl rfl rfl ?_
              refine Va (Vj rfl (Vg (Vl hn) rfl) rfl ta_3 rfl) rfl ?_
              refine Xl rfl rfl ?_
              refine Va (Vk rfl) rfl ?_
              refine Xl rfl rfl ?_
              refine Va (Zk rfl rfl) rfl ?_
              refine Xl rfl rfl ?_
              refine Va (Vr rfl) rfl ?_
              refine Xd rfl rfl c45 ?_
              refine Va (Xw rfl) rfl ?_
              refine Xd rfl rfl c45 ?_
              refine Va (Vk rfl) rfl ?_
              refine Xd rfl rfl c45 ?_
              refine Va (Xo (Xu rfl rfl h47 te_23 ts_44) (v' := .vptr [.int .i64 x46.Low, .int .i64 x46.High] 0) rfl) rfl ?_
              refine Xd rfl rfl c45 ?_
              refine Va (Xq rfl tf_44_0 ts_3 (by decide)) rfl ?_
              refine Xd rfl rfl c45 ?_
              refine Va (Xe rfl ta_3 rfl) rfl ?_
              refine Xd rfl rfl c45 ?_
              refine Va (Yz rfl rfl) rfl ?_
              refine Xl rfl rfl ?_
              refine Va (Xc (congrArg Wc c45) rfl) rfl ?_
              refine Xl rfl rfl ?_
              refine Va (Vr rfl) rfl ?_
              refine Xd rfl rfl c48 ?_
              refine Va (Xa (ds := [.vs 2 (Wa T_Place.enc p0.Places), .vs 10 (Wa T_Road.enc p0.Roads)]) rfl (Vg (Vl hn) rfl) rfl ta_27 ts_27 rfl rfl rfl) rfl ?_
              refine Xd rfl rfl c48 ?_
              refine Va (Xw rfl) rfl ?_
              refine Xd rfl rfl c48 ?_
              refine Va (Vb rfl tf_46_0 ts_3 (by decide)) rfl ?_
              refine Xd rfl rfl c48 ?_
              refine Va (Vj rfl (Vg (Vl hn) rfl) rfl ta_3 rfl) rfl ?_
              refine Xd rfl rfl c48 ?_
              refine Va (Vk rfl) rfl ?_
              refine Xd rfl rfl c48 ?_
              refine Va (Yn rfl) rfl ?_
              refine Xd rfl rfl c48 ?_
              refine Va (Vk rfl) rfl ?_
              refine Xd rfl rfl c48 ?_
              refine Va (Zp rfl rfl rfl) rfl ?_
              refine Xd rfl rfl c48 ?_
              refine Vi (Vz (ps := [(q0, ⟨4, 1, Wa Wc x49.1, w0⟩)]) (r := .bool x49.2) (os := []) (low1 := (setL low0 [(q0, ⟨4, 1, Wa Wc x49.1, w0⟩)])) (loc1 := [⟨46, 10, [.agg [.int .i64 x16.From, .int .i64 x16.To, .int .i64 x16.Length, .int .i64 x16.Area, .bool x16.Walk, .bool x16.Closed, .int .i64 x16.Rest.Low, .int .i64 x16.Rest.High, .int .i64 x16.Lift.Low, .int .i64 x16.Lift.High]], 0⟩, ⟨27, 2, [.agg [.vs 2 (Wa T_Place.enc p0.Places), .vs 10 (Wa T_Road.enc p0.Roads)]], 0⟩]) (loc2 := [⟨46, 10, [.agg [.int .i64 x16.From, .int .i64 x16.To, .int .i64 x16.Length, .int .i64 x16.Area, .bool x16.Walk, .bool x16.Closed, .int .i64 x16.Rest.Low, .int .i64 x16.Rest.High, .int .i64 x16.Lift.Low, .int .i64 x16.Lift.High]], 0⟩, ⟨27, 2, [.agg [.vs 2 (Wa T_Place.enc p0.Places), .vs 10 (Wa T_Road.enc p0.Roads)]], 0⟩]) rfl Try.call15 (rec0_ok h50 (nd1 na0 nd0) (Eq.trans hls8_0 List.length_set.symm) (Zb hB rfl 0 rfl) (Xs (Vl hn) rfl)) (Yk (ps0' := [(q0, ⟨4, 1, Wa Wc x49.1, w0⟩)]) hB rfl 0 rfl (Vq (fun _ => .bool _)) rfl Xf) rfl) rfl ?_
              refine Xl rfl rfl ?_
              refine Va (Xc (congrArg Wc c48) rfl) rfl ?_
              refine Va (Vy rfl rfl) rfl ?_
              refine Ve ?_
              obtain rfl := Wd hF
              refine And.intro rfl (And.intro ((rec0_len h50 (Eq.trans hls8_0 List.length_set.symm)).1) ?_)
              exact Vm (Vl hn) [(1, 0)] (by decide) ⟨Vh rfl (.vs _ _), Vh rfl (.int _ _), Vh rfl (.int _ _), Vh rfl (.sl _ _ _ _ hq0), Vh rfl (.int _ _), Vt 0 1 rfl rfl, Vh rfl (.int _ _), Vh rfl (.vs _ _), Vh rfl (.int _ _), Vh rfl (.int _ _), Vh rfl (.bool _), trivial⟩ ⟨⟨_, rfl, rfl, .same _ _ _ _ (Vn ⟨Vo ⟨.vs _ _, .vs _ _, trivial⟩, trivial⟩)⟩, trivial⟩
             ·have hF := Yr c48 hF
              refine Va (Vb rfl tf_46_0 ts_3 (by decide)) rfl ?_
              refine Va (Vj rfl (Vg (Vl hn) rfl) rfl ta_3 rfl) rfl ?_
              refine Va (Vk rfl) rfl ?_
              refine Va (Zk rfl rfl) rfl ?_
              refine Va (Vr rfl) rfl ?_
              refine Vc rfl rfl (Ze c26) rfl ?_
              refine Vc rfl rfl (Ze c26) rfl ?_
              refine Vc rfl rfl (Ze c26) rfl ?_
              refine Vc rfl rfl (Ze c26) rfl ?_
              refine Vc rfl rfl (Ze c26) rfl ?_
              refine Vc rfl rfl (Ze c26) rfl ?_
              refine Va (Vy (congrArg Wc c26) rfl) rfl ?_
              refine Va (Vr rfl) rfl ?_
              refine Vc rfl rfl (by decide) rfl ?_
              refine Vc rfl rfl (by decide) rfl ?_
              refine Vc rfl rfl (by decide) rfl ?_
              refine Vc rfl rfl (by decide) rfl ?_
              refine Vc rfl rfl (by decide) rfl ?_
              refine Vc rfl rfl (by decide) rfl ?_
              refine Vc rfl rfl (by decide) rfl ?_
              refine Vc rfl rfl (by decide) rfl ?_
              refine Vc rfl rfl (by decide) rfl ?_
              refine Va (Vy rfl rfl) rfl ?_
              refine Va (Vr rfl) rfl ?_
              refine Xl rfl rfl ?_
              refine Va (Vb rfl tf_46_1 ts_3 (by decide)) rfl ?_
              refine Xl rfl rfl ?_
              refine Va (Vj rfl (Vg (Vl hn) rfl) rfl ta_3 rfl) rfl ?_
              refine Xl rfl rfl ?_
              refine Va (Vk rfl) rfl ?_
              refine Xl rfl rfl ?_
              refine Va (Zk rfl rfl) rfl ?_
              refine Xl rfl rfl ?_
              refine Va (Vr rfl) rfl ?_
              refine Xd rfl rfl c45 ?_
              refine Va (Xw rfl) rfl ?_
              refine Xd rfl rfl c45 ?_
              refine Va (Vk rfl) rfl ?_
              refine Xd rfl rfl c45 ?_
              refine Va (Xo (Xu rfl rfl h47 te_23 ts_44) (v' := .vptr [.int .i64 x46.Low, .int .i64 x46.High] 0) rfl) rfl ?_
              refine Xd rfl rfl c45 ?_
              refine Va (Xq rfl tf_44_0 ts_3 (by decide)) rfl ?_
              refine Xd rfl rfl c45 ?_
              refine Va (Xe rfl ta_3 rfl) rfl ?_
              refine Xd rfl rfl c45 ?_
              refine Va (Yz rfl rfl) rfl ?_
              refine Xl rfl rfl ?_
              refine Va (Xc (congrArg Wc c45) rfl) rfl ?_
              refine Xl rfl rfl ?_
              refine Va (Vr rfl) rfl ?_
              refine Vc rfl rfl (Ze c48) rfl ?_
              refine Vc rfl rfl (Ze c48) rfl ?_
              refine Vc rfl rfl (Ze c48) rfl ?_
              refine Vc rfl rfl (Ze c48) rfl ?_
              refine Vc rfl rfl (Ze c48) rfl ?_
              refine Vc rfl rfl (Ze c48) rfl ?_
              refine Vc rfl rfl (Ze c48) rfl ?_
              refine Vc rfl rfl (Ze c48) rfl ?_
              refine Vc rfl rfl (Ze c48) rfl ?_
              refine Xl rfl rfl ?_
              refine Va (Vy (congrArg Wc c48) rfl) rfl ?_
              refine Va (Vy rfl rfl) rfl ?_
              refine Ve ?_
              obtain rfl := Wd hF
              refine And.intro rfl (And.intro (Eq.trans hls8_0 List.length_set.symm) ?_)
              exact Vm (Vl hn) [(1, 0)] (by decide) ⟨Vh rfl (.vs _ _), Vh rfl (.int _ _), Vh rfl (.int _ _), Vh rfl (.sl _ _ _ _ hq0), Vh rfl (.int _ _), Vt 0 1 rfl rfl, Vh rfl (.int _ _), Vh rfl (.vs _ _), Vh rfl (.int _ _), Vh rfl (.int _ _), Vh rfl (.bool _), trivial⟩ ⟨⟨_, rfl, rfl, .same _ _ _ _ (Vn ⟨Vo ⟨.vs _ _, .vs _ _, trivial⟩, trivial⟩)⟩, trivial⟩
            ·have hF := Yr c45 hF
             refine Va (Vb rfl tf_46_0 ts_3 (by decide)) rfl ?_
             refine Va (Vj rfl (Vg (Vl hn) rfl) rfl ta_3 rfl) rfl ?_
             refine Va (Vk rfl) rfl ?_
             refine Va (Zk rfl rfl) rfl ?_
             refine Va (Vr rfl) rfl ?_
             refine Vc rfl rfl (Ze c26) rfl ?_
             refine Vc rfl rfl (Ze c26) rfl ?_
             refine Vc rfl rfl (Ze c26) rfl ?_
             refine Vc rfl rfl (Ze c26) rfl ?_
             refine Vc rfl rfl (Ze c26) rfl ?_
             refine Vc rfl rfl (Ze c26) rfl ?_
             refine Va (Vy (congrArg Wc c26) rfl) rfl ?_
             refine Va (Vr rfl) rfl ?_
             refine Vc rfl rfl (by decide) rfl ?_
             refine Vc rfl rfl (by decide) rfl ?_
             refine Vc rfl rfl (by decide) rfl ?_
             refine Vc rfl rfl (by decide) rfl ?_
             refine Vc rfl rfl (by decide) rfl ?_
             refine Vc rfl rfl (by decide) rfl ?_
             refine Vc rfl rfl (by decide) rfl ?_
             refine Vc rfl rfl (by decide) rfl ?_
             refine Vc rfl rfl (by decide) rfl ?_
             refine Va (Vy rfl rfl) rfl ?_
             refine Va (Vr rfl) rfl ?_
             refine Xl rfl rfl ?_
             refine Va (Vb rfl tf_46_1 ts_3 (by decide)) rfl ?_
             refine Xl rfl rfl ?_
             refine Va (Vj rfl (Vg (Vl hn) rfl) rfl ta_3 rfl) rfl ?_
             refine Xl rfl rfl ?_
             refine Va (Vk rfl) rfl ?_
             refine Xl rfl rfl ?_
             refine Va (Zk rfl rfl) rfl ?_
             refine Xl rfl rfl ?_
             refine Va (Vr rfl) rfl ?_
             refine Vc rfl rfl (Ze c45) rfl ?_
             refine Vc rfl rfl (Ze c45) rfl ?_
             refine Vc rfl rfl (Ze c45) rfl ?_
             refine Vc rfl rfl (Ze c45) rfl ?_
             refine Vc rfl rfl (Ze c45) rfl ?_
             refine Vc rfl rfl (Ze c45) rfl ?_
             refine Xl rfl rfl ?_
             refine Va (Vy (congrArg Wc c45) rfl) rfl ?_
             refine Xl rfl rfl ?_
             refine Va (Vr rfl) rfl ?_
             refine Vc rfl rfl (by decide) rfl ?_
             refine Vc rfl rfl (by decide) rfl ?_
             refine Vc rfl rfl (by decide) rfl ?_
             refine Vc rfl rfl (by decide) rfl ?_
             refine Vc rfl rfl (by decide) rfl ?_
             refine Vc rfl rfl (by decide) rfl ?_
             refine Vc rfl rfl (by decide) rfl ?_
             refine Vc rfl rfl (by decide) rfl ?_
             refine Vc rfl rfl (by decide) rfl ?_
             refine Xl rfl rfl ?_
             refine Va (Vy rfl rfl) rfl ?_
             refine Va (Vy rfl rfl) rfl ?_
             refine Ve ?_
             obtain rfl := Wd hF
             refine And.intro rfl (And.intro (Eq.trans hls8_0 List.length_set.symm) ?_)
             exact Vm (Vl hn) [(1, 0)] (by decide) ⟨Vh rfl (.vs _ _), Vh rfl (.int _ _), Vh rfl (.int _ _), Vh rfl (.sl _ _ _ _ hq0), Vh rfl (.int _ _), Vt 0 1 rfl rfl, Vh rfl (.int _ _), Vh rfl (.vs _ _), Vh rfl (.int _ _), Vh rfl (.int _ _), Vh rfl (.bool _), trivial⟩ ⟨⟨_, rfl, rfl, .same _ _ _ _ (Vn ⟨Vo ⟨.vs _ _, .vs _ _, trivial⟩, trivial⟩)⟩, trivial⟩
          ·rintro _ _ _ _ ⟨rfl, hl51, hw⟩
           refine ⟨_, _, _, hw, ?_⟩
           refine Xi rfl (fun c52 => ?_) (fun c52 => ?_)
           ·have hF := Yq c52 hF
            refine Vf ?_
            refine Vd ?_
            obtain ⟨x53, h54, hF⟩ := Yf hF
            refine Va (Yn rfl) rfl ?_
            refine Va (Vk rfl) rfl ?_
            refine Va (Zr rfl hl51 rfl (Ys hB rfl 0 rfl) h54 te_49 ts_4) rfl ?_
            refine Vi (vef_stL (p := .bool false) (e' := false) rfl (Ys hB rfl 0 rfl) (Yi h54).2 rfl ts_4 rfl (Yg rfl) (We rfl) rfl (setO_B hB rfl 0 rfl (Vq (fun _ => .bool _)) rfl)) rfl ?_
            refine Ve ?_
            refine Vf ?_
            refine Vd ?_
            refine Va (Zi rfl) rfl ?_
            refine Ve ?_
            refine Yb ?_
            obtain rfl := Wd hF
            refine And.intro rfl (And.intro (Eq.trans hl51 List.length_set.symm) ?_)
            exact Vm (Vl hn) [] (by decide) ⟨Vh rfl (.bool _), trivial⟩ trivial
           ·have hF := Yr c52 hF
            refine Xj ?_
            refine Vd ?_
            obtain ⟨x55, h56, hF⟩ := Yf hF
            refine Va (Yn rfl) rfl ?_
            refine Va (Vk rfl) rfl ?_
            refine Va (Zr rfl hl51 rfl (Ys hB rfl 0 rfl) h56 te_49 ts_4) rfl ?_
            refine Vi (vef_stL (p := .bool false) (e' := false) rfl (Ys hB rfl 0 rfl) (Yi h56).2 rfl ts_4 rfl (Yg rfl) (We rfl) rfl (setO_B hB rfl 0 rfl (Vq (fun _ => .bool _)) rfl)) rfl ?_
            refine Ve ?_
            obtain rfl := Wd hF
            refine And.intro rfl (And.intro (Eq.trans hl51 List.length_set.symm) ?_)
            exact Vp ⟨rfl, rfl, rfl, rfl, rfl, rfl, rfl, rfl, rfl, trivial⟩
       ·rcases o13 with j14 | j15
        ·replace hF := elimL hF
         rintro _ _ _ _ ⟨rfl, hl57, hw⟩
         refine ⟨_, _, _, hw, ?_⟩
         obtain rfl := Wd hF
         refine And.intro rfl (And.intro hl57 ?_)
         exact Vp ⟨rfl, trivial⟩
        ·replace hF := elimR hF
         rintro _ _ _ _ ⟨rfl, hl58, hw⟩
         refine ⟨_, _, _, hw, ?_⟩
         refine Vd ?_
         refine Va (Zf rfl rfl rfl) rfl ?_
         refine Va (Vk rfl) rfl ?_
         refine Ve ?_
         obtain rfl := Wd hF
         refine And.intro rfl (And.intro hl58 ?_)
         exact Vp ⟨rfl, rfl, rfl, rfl, rfl, rfl, rfl, rfl, rfl, trivial⟩
      ·have hF := Yr c12 hF
       refine Zd ?_
       obtain rfl := Wd hF
       refine And.intro rfl (And.intro hls8_0 ?_)
       exact Vm (Vl hn) [] (by decide) trivial trivial
     ·rcases o9 with j10 | j11
      ·replace hF := elimL hF
       rintro _ _ _ _ ⟨rfl, hl59, hw⟩
       refine ⟨_, _, _, hw, ?_⟩
       obtain rfl := Wd hF
       refine And.intro (.inr rfl) (And.intro hl59 ?_)
       exact Vp ⟨rfl, trivial⟩
      ·replace hF := elimR hF
       rintro _ _ _ _ ⟨rfl, hl60, hw⟩
       refine ⟨_, _, _, hw, ?_⟩
       refine Vf ?_
       refine Vd ?_
       refine Va (Zi rfl) rfl ?_
       refine Ve ?_
       refine Yb ?_
       obtain rfl := Wd hF
       refine And.intro (.inr rfl) (And.intro hl60 ?_)
       exact Vp ⟨rfl, trivial⟩
 ·rintro _ _ _ _ ⟨he, hl1, hw⟩
  refine ⟨_, _, _, hw, ?_⟩
  exact Zc he [.bool r.2] ⟨rfl, trivial⟩ (.bool _) ⟨rfl, (List.append_nil _).symm⟩

theorem F_law14_walks_S_len {rec0 : T_Mine → (List T_Span) → Int → Int → (List Bool) → Int → Option (List Bool × Bool)} (rec0_len : ∀ {p0 : T_Mine} {p1 : List T_Span} {p2 : Int} {p3 : Int} {p4 : List Bool} {p5 : Int} {r : List Bool × Bool} (hF : rec0 p0 p1 p2 p3 p4 p5 = some r) {m0 : Nat} (hm0 : m0 = (p4).length), m0 = (r.1).length ∧ True) {p0 : T_Mine} {p1 : List T_Span} {p2 : Int} {p3 : Int} {p4 : List Bool} {p5 : Int} {r : List Bool × Bool} (hF : F_law14_walks_S rec0 p0 p1 p2 p3 p4 p5 = some r) {m0 : Nat} (hm0 : m0 = (p4).length) : m0 = (r.1).length ∧ True := by
  have h : LP (F_law14_walks_S rec0 p0 p1 p2 p3 p4 p5) (fun r => m0 = (r.1).length ∧ True) := by
    unfold F_law14_walks_S
    exact (lp_bif (fun c2 => Za ⟨hm0, trivial⟩) (fun c2 => lp_bind (Q := fun o3 => True) (lp_bif (fun c4 => Za trivial) (fun c4 => Yj fun x5 h6 => Za trivial)) (fun o3 _ => lp_bif (fun c7 => Za ⟨hm0, trivial⟩) (fun c7 => lp_bind (Q := Sum.elim (fun j10 => m0 = (j10).length ∧ True) (fun j11 => m0 = (j11).length ∧ True)) (lp_loop (fun s8 => m0 = (s8.2).length ∧ True) ⟨hm0, trivial⟩ (fun s8 ⟨hls8_0, _⟩ => by unfold F_law14_walks_S_L1; exact (lp_bif (fun c12 => lp_bind (Q := Sum.elim (fun j14 => m0 = (j14).length ∧ True) (fun j15 => m0 = (j15).length ∧ True)) (Yj fun x16 h17 => lp_bind (Q := fun o18 => True) (Yj fun x19 h20 => lp_bif (fun c21 => Za trivial) (fun c21 => Za trivial)) (fun o18 _ => lp_bif (fun c22 => Za ⟨hls8_0, trivial⟩) (fun c22 => Yj fun x23 h24 => lp_bind (Q := fun o25 => m0 = (o25.2).length ∧ True) (lp_bif (fun c26 => Yj fun x27 h28 => lp_bif (fun c29 => Yj fun x30 h31 => lp_bif (fun c32 => Za ⟨(rec0_len h31 (Eq.trans hls8_0 List.length_set.symm)).1, trivial⟩) (fun c32 => lp_bif (fun c33 => Yj fun x34 h35 => lp_bif (fun c36 => Yj fun x37 h38 => Za ⟨(rec0_len h38 (rec0_len h31 (Eq.trans hls8_0 List.length_set.symm)).1).1, trivial⟩) (fun c36 => Za ⟨(rec0_len h31 (Eq.trans hls8_0 List.length_set.symm)).1, trivial⟩)) (fun c33 => Za ⟨(rec0_len h31 (Eq.trans hls8_0 List.length_set.symm)).1, trivial⟩))) (fun c29 => lp_bif (fun c39 => Yj fun x40 h41 => lp_bif (fun c42 => Yj fun x43 h44 => Za ⟨(rec0_len h44 (Eq.trans hls8_0 List.length_set.symm)).1, trivial⟩) (fun c42 => Za ⟨(Eq.trans hls8_0 List.length_set.symm), trivial⟩)) (fun c39 => Za ⟨(Eq.trans hls8_0 List.length_set.symm), trivial⟩))) (fun c26 => lp_bif (fun c45 => Yj fun x46 h47 => lp_bif (fun c48 => Yj fun x49 h50 => Za ⟨(rec0_len h50 (Eq.trans hls8_0 List.length_set.symm)).1, trivial⟩) (fun c48 => Za ⟨(Eq.trans hls8_0 List.length_set.symm), trivial⟩)) (fun c45 => Za ⟨(Eq.trans hls8_0 List.length_set.symm), trivial⟩))) (fun o25 ⟨hl51, _⟩ => lp_bif (fun c52 => Yj fun x53 h54 => Za ⟨(Eq.trans hl51 List.length_set.symm), trivial⟩) (fun c52 => Yj fun x55 h56 => Za ⟨(Eq.trans hl51 List.length_set.symm), trivial⟩))))) (lp_elim (fun j14 ⟨hl57, _⟩ => Za ⟨hl57, trivial⟩) (fun j15 ⟨hl58, _⟩ => Za ⟨hl58, trivial⟩))) (fun c12 => Za ⟨hls8_0, trivial⟩)))) (lp_elim (fun j10 ⟨hl59, _⟩ => Za ⟨hl59, trivial⟩) (fun j11 ⟨hl60, _⟩ => Za ⟨hl60, trivial⟩))))))
  exact h r hF

theorem F_law14_walks_S_ok {rec0 : T_Mine → (List T_Span) → Int → Int → (List Bool) → Int → Option (List Bool × Bool)} (rec0_ok : ∀ {p0 : T_Mine} {p1 : List T_Span} {p2 : Int} {p3 : Int} {p4 : List Bool} {p5 : Int} {r : List Bool × Bool} (hF : rec0 p0 p1 p2 p3 p4 p5 = some r) {low : List AObj} {q0 w0 : Nat} (hnd : [q0].Nodup) {m0 : Nat} (hm0 : m0 = (p4).length) (hq0 : low[q0]? = some ⟨4, 1, Wa Wc p4, w0⟩) {n : Nat} (hn : low.length = n), Zh Try.prog 15 [.agg [.vs 2 (Wa T_Place.enc p0.Places), .vs 10 (Wa T_Road.enc p0.Roads)], .vs 2 (Wa T_Span.enc p1), .int .i64 p2, .int .i64 p3, .sl q0 w0 0 m0, .int .i64 p5] low fun x low' => x = .bool r.2 ∧ low' = setL low [(q0, ⟨4, 1, Wa Wc r.1, w0⟩)] ++ []) (rec0_len : ∀ {p0 : T_Mine} {p1 : List T_Span} {p2 : Int} {p3 : Int} {p4 : List Bool} {p5 : Int} {r : List Bool × Bool} (hF : rec0 p0 p1 p2 p3 p4 p5 = some r) {m0 : Nat} (hm0 : m0 = (p4).length), m0 = (r.1).length ∧ True) {p0 : T_Mine} {p1 : List T_Span} {p2 : Int} {p3 : Int} {p4 : List Bool} {p5 : Int} {r : List Bool × Bool} (hF : F_law14_walks_S rec0 p0 p1 p2 p3 p4 p5 = some r) {low : List AObj} {q0 w0 : Nat} (hnd : [q0].Nodup) {m0 : Nat} (hm0 : m0 = (p4).length) (hq0 : low[q0]? = some ⟨4, 1, Wa Wc p4, w0⟩) {n : Nat} (hn : low.length = n) :
    Zh Try.prog 15 [.agg [.vs 2 (Wa T_Place.enc p0.Places), .vs 10 (Wa T_Road.enc p0.Roads)], .vs 2 (Wa T_Span.enc p1), .int .i64 p2, .int .i64 p3, .sl q0 w0 0 m0, .int .i64 p5] low fun x low' => x = .bool r.2 ∧ low' = setL low [(q0, ⟨4, 1, Wa Wc r.1, w0⟩)] ++ [] := by
  obtain ⟨h1, h2⟩ := bor_start (ps := [(q0, ⟨4, 1, Wa Wc p4, w0⟩)]) hnd (borC hq0 bor0)
  exact Zz h1 (F_law14_walks_S_ok0 rec0_ok rec0_len hF h2 hm0 hn)

theorem F_law14_walks_len {fu : Nat} {p0 : T_Mine} {p1 : List T_Span} {p2 : Int} {p3 : Int} {p4 : List Bool} {p5 : Int} {r : List Bool × Bool} (hF : F_law14_walks fu p0 p1 p2 p3 p4 p5 = some r) {m0 : Nat} (hm0 : m0 = (p4).length) : m0 = (r.1).length ∧ True := by
  induction fu generalizing p0 p1 p2 p3 p4 p5 r m0 with
  | zero => unfold F_law14_walks at hF; cases hF
  | succ fu ih => unfold F_law14_walks at hF; exact F_law14_walks_S_len ih hF hm0

theorem F_law14_walks_ok {fu : Nat} {p0 : T_Mine} {p1 : List T_Span} {p2 : Int} {p3 : Int} {p4 : List Bool} {p5 : Int} {r : List Bool × Bool} (hF : F_law14_walks fu p0 p1 p2 p3 p4 p5 = some r) {low : List AObj} {q0 w0 : Nat} (hnd : [q0].Nodup) {m0 : Nat} (hm0 : m0 = (p4).length) (hq0 : low[q0]? = some ⟨4, 1, Wa Wc p4, w0⟩) {n : Nat} (hn : low.length = n) :
    Zh Try.prog 15 [.agg [.vs 2 (Wa T_Place.enc p0.Places), .vs 10 (Wa T_Road.enc p0.Roads)], .vs 2 (Wa T_Span.enc p1), .int .i64 p2, .int .i64 p3, .sl q0 w0 0 m0, .int .i64 p5] low fun x low' => x = .bool r.2 ∧ low' = setL low [(q0, ⟨4, 1, Wa Wc r.1, w0⟩)] ++ [] := by
  induction fu generalizing p0 p1 p2 p3 p4 p5 r low q0 w0 m0 n with
  | zero => unfold F_law14_walks at hF; cases hF
  | succ fu ih => unfold F_law14_walks at hF; exact F_law14_walks_S_ok ih (fun hF => F_law14_walks_len hF) hF hnd hm0 hq0 hn

theorem F_ref01_Has_ok {p0 : List Int} {p1 : Int} {r : Bool} (hF : F_ref01_Has p0 p1 = some r) (low : List AObj) :
    Zh Try.prog 16 [.vs 1 (Wa (Wb .i64) p0), .int .i64 p1] low fun x low' => x = .bool r ∧ low' = low := by
 refine Xr (nt := 18) (rs := [.tmp 4]) Try.func16 rfl rfl (We rfl) rfl ?_
 refine Vs (Q' := FnE (fun E' lw lc => Xz E' lw lc [(4, .bool r)] low [])) ?_ ?_
 ·unfold F_ref01_Has at hF
  refine Vf ?_
  refine Vd ?_
  refine Va (Zi rfl) rfl ?_
  refine Ve ?_
  refine Vf ?_
  refine Vf ?_
  refine Vd ?_
  refine Va (Xv rfl) rfl ?_
  refine Ve ?_
  refine Xh ?_
  obtain ⟨o2, ho2, hF⟩ := Yf hF
  refine Vs (Yy (F_ref01_Has_L1 p0 p1) (fun s1 E' lw lc => Xz E' lw lc [(0, .vs 1 (Wa (Wb .i64) p0)), (1, .int .i64 p1), (5, .int .i64 s1)] low []) (Sum.elim (fun j3 => OnlyE .ret (fun E' lw lc => Xz E' lw lc [(4, .bool true)] low [])) (fun j4 => OnlyE (.exit 0) (fun E' lw lc => Xz E' lw lc [] low []))) ho2 ?_ (by rintro (_|_) _ _ _ ⟨h, _⟩ <;> cases h) ?_) ?_
  ·exact Vp ⟨rfl, rfl, rfl, trivial⟩
  ·rintro s1 os1 _ _ _ hF hw
   unfold F_ref01_Has_L1 at hF
   refine Yl hw ?_
   refine Vf ?_
   refine Vf ?_
   refine Vd ?_
   refine Va (Vk rfl) rfl ?_
   refine Va (Xw rfl) rfl ?_
   refine Va (Xo (Yu rfl rfl te_32) (congrArg (fun n : Nat => Wb .i64 (n : Int)) (Wh _))) rfl ?_
   refine Va (Yz rfl rfl) rfl ?_
   refine Ve ?_
   refine Xi rfl (fun c5 => ?_) (fun c5 => ?_)
   ·have hF := Yq c5 hF
    refine Xj ?_
    refine Vf ?_
    refine Xh ?_
    refine Vf ?_
    refine Vd ?_
    obtain ⟨x6, h7, hF⟩ := Yf hF
    refine Va (Xw rfl) rfl ?_
    refine Va (Vk rfl) rfl ?_
    refine Va (Xo (Xu rfl rfl h7 te_32 ts_3) (v' := .vptr [.int .i64 x6] 0) rfl) rfl ?_
    refine Va (Xe rfl ta_3 rfl) rfl ?_
    refine Va (Vk rfl) rfl ?_
    refine Va (Zk rfl rfl) rfl ?_
    refine Ve ?_
    refine Xi rfl (fun c8 => ?_) (fun c8 => ?_)
    ·have hF := Yq c8 hF
     refine Vf ?_
     refine Vd ?_
     refine Va (Zi rfl) rfl ?_
     refine Ve ?_
     refine Yb ?_
     obtain rfl := Wd hF
     refine Xk ?_
     exact Vp ⟨rfl, trivial⟩
    ·have hF := Yr c8 hF
     refine Xj ?_
     refine Vd ?_
     refine Va (Vk rfl) rfl ?_
     refine Va (Zf rfl rfl rfl) rfl ?_
     refine Va (Xv rfl) rfl ?_
     refine Ve ?_
     obtain rfl := Wd hF
     refine Xk ?_
     exact Vp ⟨rfl, rfl, rfl, trivial⟩
   ·have hF := Yr c5 hF
    refine Zd ?_
    obtain rfl := Wd hF
    refine Xk ?_
    exact Vp trivial
  ·rcases o2 with j3 | j4
   ·replace hF := elimL hF
    rintro _ _ _ _ ⟨rfl, hw⟩
    refine ⟨_, _, _, hw, ?_⟩
    obtain rfl := Wd hF
    refine fnR ?_
    exact Vp ⟨rfl, trivial⟩
   ·replace hF := elimR hF
    rintro _ _ _ _ ⟨rfl, hw⟩
    refine ⟨_, _, _, hw, ?_⟩
    refine Vf ?_
    refine Vd ?_
    refine Va (Zi rfl) rfl ?_
    refine Ve ?_
    refine Yb ?_
    obtain rfl := Wd hF
    refine fnR ?_
    exact Vp ⟨rfl, trivial⟩
 ·rintro _ _ _ _ ⟨he, hw⟩
  refine ⟨_, _, _, hw, ?_⟩
  exact Zc he [.bool r] ⟨rfl, trivial⟩ (.bool _) ⟨rfl, rfl⟩

theorem F_law14_RecirculateFinds_ok {p0 : List Int} {r : Bool} (hF : F_law14_RecirculateFinds p0 = some r) (low : List AObj) :
    Zh Try.prog 4 [.vs 1 (Wa (Wb .u8) p0)] low fun x low' => x = .bool r ∧ low' = low := by
 refine Xr (nt := 102) (rs := [.tmp 2]) Try.func4 rfl rfl (We rfl) rfl ?_
 refine Vs (Q' := FnE (fun E' lw lc => Xz E' lw lc [(2, .bool r)] low [])) ?_ ?_
 ·unfold F_law14_RecirculateFinds at hF
  refine Vf ?_
  refine Vd ?_
  refine Va (Zi rfl) rfl ?_
  refine Ve ?_
  refine Vf ?_
  refine Vd ?_
  obtain ⟨x1, h2, hF⟩ := Yf hF
  refine Va (Xw rfl) rfl ?_
  refine Vi (vef_callN (r := .tup [.agg [.vs 2 (Wa T_Place.enc x1.1.Mine.Places), .vs 10 (Wa T_Road.enc x1.1.Mine.Roads), .vs 4 (Wa T_Fan.enc x1.1.Fans), .vs 3 (Wa T_Door.enc x1.1.Doors)], .vs 2 (Wa T_Span.enc x1.2.1), .vs 1 (Wa (Wb .i64) x1.2.2)]) (os := []) rfl Try.call8 (F_law14_air_ok h2 _ (Xs rfl rfl))) rfl ?_
  refine Va (rd_mvT rfl) rfl ?_
  refine Va (rd_extract rfl rfl) rfl ?_
  refine Va (rd_extract rfl rfl) rfl ?_
  refine Va (rd_extract rfl rfl) rfl ?_
  refine Vi (Xm rfl rfl tz_31 rfl rfl (Wf _) rfl) rfl ?_
  refine Vi (Vw (p := .agg [.vs 2 (Wa T_Place.enc x1.1.Mine.Places), .vs 10 (Wa T_Road.enc x1.1.Mine.Roads), .vs 4 (Wa T_Fan.enc x1.1.Fans), .vs 3 (Wa T_Door.enc x1.1.Doors)]) (e' := .agg [.vs 2 (Wa T_Place.enc x1.1.Mine.Places), .vs 10 (Wa T_Road.enc x1.1.Mine.Roads), .vs 4 (Wa T_Fan.enc x1.1.Fans), .vs 3 (Wa T_Door.enc x1.1.Doors)]) rfl (Vg rfl rfl) rfl rfl ts_31 rfl (Yg rfl) rfl (We rfl) rfl (Xn rfl rfl)) rfl ?_
  refine Va (rd_asV rfl) rfl ?_
  refine Va (rd_asV rfl) rfl ?_
  refine Ve ?_
  refine Vf ?_
  refine Vd ?_
  refine Va (Vb rfl tf_31_0 ts_27 (by decide)) rfl ?_
  refine Va (Xa (ds := [.vs 2 (Wa T_Place.enc x1.1.Mine.Places), .vs 10 (Wa T_Road.enc x1.1.Mine.Roads)]) rfl (Vg rfl rfl) rfl ta_27 ts_27 rfl rfl rfl) rfl ?_
  refine Vi (Xm rfl rfl tz_27 rfl rfl (Wf _) rfl) rfl ?_
  refine Vi (Vw (p := .agg [.vs 2 (Wa T_Place.enc x1.1.Mine.Places), .vs 10 (Wa T_Road.enc x1.1.Mine.Roads)]) (e' := .agg [.vs 2 (Wa T_Place.enc x1.1.Mine.Places), .vs 10 (Wa T_Road.enc x1.1.Mine.Roads)]) rfl (Vg rfl rfl) rfl rfl ts_27 rfl (Yg rfl) rfl (We rfl) rfl (Xn rfl rfl)) rfl ?_
  refine Ve ?_
  refine Vf ?_
  refine Vd ?_
  obtain ⟨x3, h4, hF⟩ := Yf hF
  refine Va (Xa (ds := [.vs 2 (Wa T_Place.enc x1.1.Mine.Places), .vs 10 (Wa T_Road.enc x1.1.Mine.Roads)]) rfl (Vg rfl rfl) rfl ta_27 ts_27 rfl rfl rfl) rfl ?_
  refine Va (Xw rfl) rfl ?_
  refine Vi (Xx rfl Try.call12 (F_recirculate_Circles_ok h4 _)) rfl ?_
  refine Va (rd_asV rfl) rfl ?_
  refine Ve ?_
  refine Vf ?_
  refine Vf ?_
  refine Vd ?_
  refine Va (Vb rfl tf_27_1 ts_25 (by decide)) rfl ?_
  refine Va (Vj rfl (Vg rfl rfl) rfl ta_25 rfl) rfl ?_
  refine Va (Xo (Yu rfl rfl te_25) (congrArg (fun n : Nat => Wb .i64 (n : Int)) (Wh _))) rfl ?_
  refine Va (Vk rfl) rfl ?_
  refine Ve ?_
  refine Xh ?_
  obtain ⟨o6, ho6, hF⟩ := Yf hF
  refine Vs (Yy (F_law14_RecirculateFinds_L1 x1 x3) (fun s5 E' lw lc => Xz E' lw lc [(4, .vs 2 (Wa T_Span.enc x1.2.1)), (6, .ptr (low.length + 0) 0 0 0), (7, .vs 1 (Wa (Wb .i64) x3)), (24, .vs 10 (Wa T_Road.enc x1.1.Mine.Roads)), (25, .int .i64 ((x1.1.Mine.Roads).length : Int)), (26, .int .i64 s5)] low [⟨27, 2, [.agg [.vs 2 (Wa T_Place.enc x1.1.Mine.Places), .vs 10 (Wa T_Road.enc x1.1.Mine.Roads)]], 0⟩]) (Sum.elim (fun j7 => OnlyE .ret (fun E' lw lc => Xz E' lw lc [(2, .bool false)] low [])) (fun j8 => OnlyE (.exit 0) (fun E' lw lc => Xz E' lw lc [] low []))) ho6 ?_ (by rintro (_|_) _ _ _ ⟨h, _⟩ <;> cases h) ?_) ?_
  ·exact Vm rfl [(1, 0)] (by decide) ⟨Vh rfl (.vs _ _), Vt 0 1 rfl rfl, Vh rfl (.vs _ _), Vh rfl (.vs _ _), Vh rfl (.int _ _), Vh rfl (.int _ _), trivial⟩ ⟨⟨_, rfl, rfl, .same _ _ _ _ (Vn ⟨Vo ⟨.vs _ _, .vs _ _, trivial⟩, trivial⟩)⟩, trivial⟩
  ·rintro s5 os5 _ _ _ hF hw
   unfold F_law14_RecirculateFinds_L1 at hF
   refine Yl hw ?_
   refine Vf ?_
   refine Vd ?_
   refine Va (Yz rfl rfl) rfl ?_
   refine Ve ?_
   refine Vf ?_
   refine Xi rfl (fun c9 => ?_) (fun c9 => ?_)
   ·have hF := Yq c9 hF
    refine Xj ?_
    refine Vf ?_
    refine Xh ?_
    refine Vf ?_
    refine Vd ?_
    obtain ⟨x10, h11, hF⟩ := Yf hF
    refine Va (Vk rfl) rfl ?_
    refine Va (Xo (Xu rfl rfl h11 te_25 ts_46) (v' := .vptr [.int .i64 x10.From, .int .i64 x10.To, .int .i64 x10.Length, .int .i64 x10.Area, .bool x10.Walk, .bool x10.Closed, .int .i64 x10.Rest.Low, .int .i64 x10.Rest.High, .int .i64 x10.Lift.Low, .int .i64 x10.Lift.High] 0) rfl) rfl ?_
    refine Va (Zo (ds := [.int .i64 x10.From, .int .i64 x10.To, .int .i64 x10.Length, .int .i64 x10.Area, .bool x10.Walk, .bool x10.Closed, .int .i64 x10.Rest.Low, .int .i64 x10.Rest.High, .int .i64 x10.Lift.Low, .int .i64 x10.Lift.High]) rfl ta_46 ts_46 rfl rfl) rfl ?_
    refine Vi (Xm rfl rfl tz_46 rfl rfl (Wf _) rfl) rfl ?_
    refine Va (Xv rfl) rfl ?_
    refine Vi (Vw (p := .agg [.int .i64 x10.From, .int .i64 x10.To, .int .i64 x10.Length, .int .i64 x10.Area, .bool x10.Walk, .bool x10.Closed, .int .i64 x10.Rest.Low, .int .i64 x10.Rest.High, .int .i64 x10.Lift.Low, .int .i64 x10.Lift.High]) (e' := .agg [.int .i64 x10.From, .int .i64 x10.To, .int .i64 x10.Length, .int .i64 x10.Area, .bool x10.Walk, .bool x10.Closed, .int .i64 x10.Rest.Low, .int .i64 x10.Rest.High, .int .i64 x10.Lift.Low, .int .i64 x10.Lift.High]) rfl (Vg rfl rfl) rfl rfl ts_46 rfl (Yg rfl) rfl (We rfl) rfl (Xn rfl rfl)) rfl ?_
    refine Ve ?_
    refine Vf ?_
    refine Vd ?_
    refine Va (Zi rfl) rfl ?_
    refine Ve ?_
    refine Vf ?_
    refine Vf ?_
    obtain ⟨o12, ho12, hF⟩ := Yf hF
    refine Vs (Q' := (fun o12 => OnlyE .normal (fun E' lw lc => Xz E' lw lc [(4, .vs 2 (Wa T_Span.enc x1.2.1)), (6, .ptr (low.length + 0) 0 0 0), (7, .vs 1 (Wa (Wb .i64) x3)), (8, .int .i64 s5), (9, .ptr (low.length + 1) 0 0 0), (10, .bool false), (24, .vs 10 (Wa T_Road.enc x1.1.Mine.Roads)), (25, .int .i64 ((x1.1.Mine.Roads).length : Int)), (26, .int .i64 s5), (53, .bool o12)] low [⟨27, 2, [.agg [.vs 2 (Wa T_Place.enc x1.1.Mine.Places), .vs 10 (Wa T_Road.enc x1.1.Mine.Roads)]], 0⟩, ⟨46, 10, [.agg [.int .i64 x10.From, .int .i64 x10.To, .int .i64 x10.Length, .int .i64 x10.Area, .bool x10.Walk, .bool x10.Closed, .int .i64 x10.Rest.Low, .int .i64 x10.Rest.High, .int .i64 x10.Lift.Low, .int .i64 x10.Lift.High]], 0⟩])) o12) ?_ ?_
    ·replace hF := ho12
     refine Vd ?_
     rcases Wg (!x10.Closed) with c13 | c13
     ·have hF := Yq c13 hF
      obtain ⟨x14, h15, hF⟩ := Yf hF
      rcases Wg (!x14.Surface) with c16 | c16
      ·have hF := Yq c16 hF
       obtain ⟨x17, h18, hF⟩ := Yf hF
       refine Va (Vb rfl tf_46_5 ts_4 (by decide)) rfl ?_
       refine Va (Vj rfl (Vg rfl rfl) rfl ta_4 rfl) rfl ?_
       refine Va (rd_not rfl) rfl ?_
       refine Va (Vr rfl) rfl ?_
       refine Xd rfl rfl c13 ?_
       refine Va (Vb rfl tf_27_0 ts_24 (by decide)) rfl ?_
       refine Xd rfl rfl c13 ?_
       refine Va (Vj rfl (Vg rfl rfl) rfl ta_24 rfl) rfl ?_
       refine Xd rfl rfl c13 ?_
       refine Va (Vb rfl tf_46_0 ts_3 (by decide)) rfl ?_
       refine Xd rfl rfl c13 ?_
       refine Va (Vj rfl (Vg rfl rfl) rfl ta_3 rfl) rfl ?_
       refine Xd rfl rfl c13 ?_
       refine Va (Xo (Xu rfl rfl h15 te_24 ts_48) (v' := .vptr [.int .i64 x14.Height, .bool x14.Surface] 0) rfl) rfl ?_
       refine Xd rfl rfl c13 ?_
       refine Va (Xq rfl tf_48_1 ts_4 (by decide)) rfl ?_
       refine Xd rfl rfl c13 ?_
       refine Va (Xe rfl ta_4 rfl) rfl ?_
       refine Xd rfl rfl c13 ?_
       refine Va (rd_not rfl) rfl ?_
       refine Va (Xc (congrArg Wc c13) rfl) rfl ?_
       refine Va (Vr rfl) rfl ?_
       refine Xd rfl rfl c16 ?_
       refine Va (Vb rfl tf_27_0 ts_24 (by decide)) rfl ?_
       refine Xd rfl rfl c16 ?_
       refine Va (Vj rfl (Vg rfl rfl) rfl ta_24 rfl) rfl ?_
       refine Xd rfl rfl c16 ?_
       refine Va (Vb rfl tf_46_1 ts_3 (by decide)) rfl ?_
       refine Xd rfl rfl c16 ?_
       refine Va (Vj rfl (Vg rfl rfl) rfl ta_3 rfl) rfl ?_
       refine Xd rfl rfl c16 ?_
       refine Va (Xo (Xu rfl rfl h18 te_24 ts_48) (v' := .vptr [.int .i64 x17.Height, .bool x17.Surface] 0) rfl) rfl ?_
       refine Xd rfl rfl c16 ?_
       refine Va (Xq rfl tf_48_1 ts_4 (by decide)) rfl ?_
       refine Xd rfl rfl c16 ?_
       refine Va (Xe rfl ta_4 rfl) rfl ?_
       refine Xd rfl rfl c16 ?_
       refine Va (rd_not rfl) rfl ?_
       refine Va (Xc (congrArg Wc c16) rfl) rfl ?_
       refine Ve ?_
       obtain rfl := Wd hF
       refine Xk ?_
       exact Vp ⟨rfl, rfl, rfl, rfl, rfl, rfl, rfl, rfl, rfl, rfl, trivial⟩
      ·have hF := Yr c16 hF
       refine Va (Vb rfl tf_46_5 ts_4 (by decide)) rfl ?_
       refine Va (Vj rfl (Vg rfl rfl) rfl ta_4 rfl) rfl ?_
       refine Va (rd_not rfl) rfl ?_
       refine Va (Vr rfl) rfl ?_
       refine Xd rfl rfl c13 ?_
       refine Va (Vb rfl tf_27_0 ts_24 (by decide)) rfl ?_
       refine Xd rfl rfl c13 ?_
       refine Va (Vj rfl (Vg rfl rfl) rfl ta_24 rfl) rfl ?_
       refine Xd rfl rfl c13 ?_
       refine Va (Vb rfl tf_46_0 ts_3 (by decide)) rfl ?_
       refine Xd rfl rfl c13 ?_
       refine Va (Vj rfl (Vg rfl rfl) rfl ta_3 rfl) rfl ?_
       refine Xd rfl rfl c13 ?_
       refine Va (Xo (Xu rfl rfl h15 te_24 ts_48) (v' := .vptr [.int .i64 x14.Height, .bool x14.Surface] 0) rfl) rfl ?_
       refine Xd rfl rfl c13 ?_
       refine Va (Xq rfl tf_48_1 ts_4 (by decide)) rfl ?_
       refine Xd rfl rfl c13 ?_
       refine Va (Xe rfl ta_4 rfl) rfl ?_
       refine Xd rfl rfl c13 ?_
       refine Va (rd_not rfl) rfl ?_
       refine Va (Xc (congrArg Wc c13) rfl) rfl ?_
       refine Va (Vr rfl) rfl ?_
       refine Vc rfl rfl (Ze c16) rfl ?_
       refine Vc rfl rfl (Ze c16) rfl ?_
       refine Vc rfl rfl (Ze c16) rfl ?_
       refine Vc rfl rfl (Ze c16) rfl ?_
       refine Vc rfl rfl (Ze c16) rfl ?_
       refine Vc rfl rfl (Ze c16) rfl ?_
       refine Vc rfl rfl (Ze c16) rfl ?_
       refine Vc rfl rfl (Ze c16) rfl ?_
       refine Va (Vy (congrArg Wc c16) rfl) rfl ?_
       refine Ve ?_
       obtain rfl := Wd hF
       refine Xk ?_
       exact Vp ⟨rfl, rfl, rfl, rfl, rfl, rfl, rfl, rfl, rfl, rfl, trivial⟩
     ·have hF := Yr c13 hF
      refine Va (Vb rfl tf_46_5 ts_4 (by decide)) rfl ?_
      refine Va (Vj rfl (Vg rfl rfl) rfl ta_4 rfl) rfl ?_
      refine Va (rd_not rfl) rfl ?_
      refine Va (Vr rfl) rfl ?_
      refine Vc rfl rfl (Ze c13) rfl ?_
      refine Vc rfl rfl (Ze c13) rfl ?_
      refine Vc rfl rfl (Ze c13) rfl ?_
      refine Vc rfl rfl (Ze c13) rfl ?_
      refine Vc rfl rfl (Ze c13) rfl ?_
      refine Vc rfl rfl (Ze c13) rfl ?_
      refine Vc rfl rfl (Ze c13) rfl ?_
      refine Vc rfl rfl (Ze c13) rfl ?_
      refine Va (Vy (congrArg Wc c13) rfl) rfl ?_
      refine Va (Vr rfl) rfl ?_
      refine Vc rfl rfl (by decide) rfl ?_
      refine Vc rfl rfl (by decide) rfl ?_
      refine Vc rfl rfl (by decide) rfl ?_
      refine Vc rfl rfl (by decide) rfl ?_
      refine Vc rfl rfl (by decide) rfl ?_
      refine Vc rfl rfl (by decide) rfl ?_
      refine Vc rfl rfl (by decide) rfl ?_
      refine Vc rfl rfl (by decide) rfl ?_
      refine Va (Vy rfl rfl) rfl ?_
      refine Ve ?_
      obtain rfl := Wd hF
      refine Xk ?_
      exact Vp ⟨rfl, rfl, rfl, rfl, rfl, rfl, rfl, rfl, rfl, rfl, trivial⟩
    ·rintro _ _ _ _ ⟨rfl, hw⟩
     refine ⟨_, _, _, hw, ?_⟩
     obtain ⟨o19, ho19, hF⟩ := Yf hF
     refine Vs (Q' := (fun o19 => OnlyE .normal (fun E' lw lc => Xz E' lw lc [(4, .vs 2 (Wa T_Span.enc x1.2.1)), (6, .ptr (low.length + 0) 0 0 0), (7, .vs 1 (Wa (Wb .i64) x3)), (8, .int .i64 s5), (10, .bool o19), (24, .vs 10 (Wa T_Road.enc x1.1.Mine.Roads)), (25, .int .i64 ((x1.1.Mine.Roads).length : Int)), (26, .int .i64 s5)] low [⟨27, 2, [.agg [.vs 2 (Wa T_Place.enc x1.1.Mine.Places), .vs 10 (Wa T_Road.enc x1.1.Mine.Roads)]], 0⟩])) o19) ?_ ?_
     ·replace hF := ho19
      refine Xi rfl (fun c20 => ?_) (fun c20 => ?_)
      ·have hF := Yq c20 hF
       refine Vf ?_
       refine Vd ?_
       obtain ⟨x21, h22, hF⟩ := Yf hF
       refine Va (Vb rfl tf_27_1 ts_25 (by decide)) rfl ?_
       refine Va (Vj rfl (Vg rfl rfl) rfl ta_25 rfl) rfl ?_
       refine Va (Xo (Yu rfl rfl te_25) (congrArg (fun n : Nat => Wb .i64 (n : Int)) (Wh _))) rfl ?_
       refine Vi (vef_mkN (f := Wc) (zz := false) rfl rfl rfl rfl te_49 ts_4 tb_4 (by decide) tz_4 rfl rfl (Wf _) rfl h22) rfl ?_
       refine Va (rd_asL rfl) rfl ?_
       refine Ve ?_
       refine Vf ?_
       refine Vd ?_
       obtain ⟨x23, h24, hF⟩ := Yf hF
       refine Va (Yn rfl) rfl ?_
       refine Va (Vk rfl) rfl ?_
       refine Va (Zr rfl rfl rfl (Vg rfl rfl) h24 te_49 ts_4) rfl ?_
       refine Vi (vef_stL (p := .bool true) (e' := true) rfl (Vg rfl rfl) (Yi h24).2 rfl ts_4 rfl (Yg rfl) (We rfl) rfl (Xn rfl rfl)) rfl ?_
       refine Ve ?_
       refine Vd ?_
       obtain ⟨x25, h26, hF⟩ := Yf hF
       rcases Wg (decide (0 < x25.High)) with c27 | c27
       ·have hF := Yq c27 hF
        obtain ⟨x28, h29, hF⟩ := Yf hF
        rcases Wg x28.2 with c30 | c30
        ·have hF := Yq c30 hF
         refine Va (Xw rfl) rfl ?_
         refine Va (Vk rfl) rfl ?_
         refine Va (Xo (Xu rfl rfl h26 te_23 ts_44) (v' := .vptr [.int .i64 x25.Low, .int .i64 x25.High] 0) rfl) rfl ?_
         refine Va (Xq rfl tf_44_1 ts_3 (by decide)) rfl ?_
         refine Va (Xe rfl ta_3 rfl) rfl ?_
         refine Va (Zq rfl rfl) rfl ?_
         refine Va (Vr rfl) rfl ?_
         refine Xd rfl rfl c27 ?_
         refine Va (Xa (ds := [.vs 2 (Wa T_Place.enc x1.1.Mine.Places), .vs 10 (Wa T_Road.enc x1.1.Mine.Roads)]) rfl (Vg rfl rfl) rfl ta_27 ts_27 rfl rfl rfl) rfl ?_
         refine Xd rfl rfl c27 ?_
         refine Va (Xw rfl) rfl ?_
         refine Xd rfl rfl c27 ?_
         refine Va (Vb rfl tf_46_1 ts_3 (by decide)) rfl ?_
         refine Xd rfl rfl c27 ?_
         refine Va (Vj rfl (Vg rfl rfl) rfl ta_3 rfl) rfl ?_
         refine Xd rfl rfl c27 ?_
         refine Va (Vb rfl tf_46_0 ts_3 (by decide)) rfl ?_
         refine Xd rfl rfl c27 ?_
         refine Va (Vj rfl (Vg rfl rfl) rfl ta_3 rfl) rfl ?_
         refine Xd rfl rfl c27 ?_
         refine Va (Yn rfl) rfl ?_
         refine Xd rfl rfl c27 ?_
         refine Vi (Vz (ps := [((low.length + 2), ⟨4, 1, Wa Wc x28.1, 0⟩)]) (r := .bool x28.2) (os := []) (low1 := low) (loc1 := [⟨27, 2, [.agg [.vs 2 (Wa T_Place.enc x1.1.Mine.Places), .vs 10 (Wa T_Road.enc x1.1.Mine.Roads)]], 0⟩, ⟨46, 10, [.agg [.int .i64 x10.From, .int .i64 x10.To, .int .i64 x10.Length, .int .i64 x10.Area, .bool x10.Walk, .bool x10.Closed, .int .i64 x10.Rest.Low, .int .i64 x10.Rest.High, .int .i64 x10.Lift.Low, .int .i64 x10.Lift.High]], 0⟩, ⟨4, 1, Wa Wc x28.1, 0⟩]) (loc2 := [⟨27, 2, [.agg [.vs 2 (Wa T_Place.enc x1.1.Mine.Places), .vs 10 (Wa T_Road.enc x1.1.Mine.Roads)]], 0⟩, ⟨46, 10, [.agg [.int .i64 x10.From, .int .i64 x10.To, .int .i64 x10.Length, .int .i64 x10.Area, .bool x10.Walk, .bool x10.Closed, .int .i64 x10.Rest.Low, .int .i64 x10.Rest.High, .int .i64 x10.Lift.Low, .int .i64 x10.Lift.High]], 0⟩, ⟨4, 1, Wa Wc x28.1, 0⟩]) rfl Try.call15 (F_law14_walks_ok h29 (nd1 na0 nd0) (Eq.trans rfl List.length_set.symm) (get_N rfl rfl) (Xs rfl rfl)) (Zv (loc2 := [⟨27, 2, [.agg [.vs 2 (Wa T_Place.enc x1.1.Mine.Places), .vs 10 (Wa T_Road.enc x1.1.Mine.Roads)]], 0⟩, ⟨46, 10, [.agg [.int .i64 x10.From, .int .i64 x10.To, .int .i64 x10.Length, .int .i64 x10.Area, .bool x10.Walk, .bool x10.Closed, .int .i64 x10.Rest.Low, .int .i64 x10.Rest.High, .int .i64 x10.Lift.Low, .int .i64 x10.Lift.High]], 0⟩, ⟨4, 1, Wa Wc x28.1, 0⟩]) rfl 2 rfl Xf) rfl) rfl ?_
         refine Va (Xc (congrArg Wc c27) rfl) rfl ?_
         refine Va (Vr rfl) rfl ?_
         refine Vc rfl rfl (neT c30) rfl ?_
         refine Vc rfl rfl (neT c30) rfl ?_
         refine Vc rfl rfl (neT c30) rfl ?_
         refine Vc rfl rfl (neT c30) rfl ?_
         refine Vc rfl rfl (neT c30) rfl ?_
         refine Vc rfl rfl (neT c30) rfl ?_
         refine Vc rfl rfl (neT c30) rfl ?_
         refine Zl rfl rfl rfl ?_
         refine Zl rfl rfl rfl ?_
         refine Zl rfl rfl rfl ?_
         refine Zl rfl rfl rfl ?_
         refine Zl rfl rfl rfl ?_
         refine Zl rfl rfl rfl ?_
         refine Zl rfl rfl rfl ?_
         refine Zl rfl rfl rfl ?_
         refine Vc rfl rfl (neT c30) rfl ?_
         refine Va (Xc (congrArg Wc c30) rfl) rfl ?_
         refine Va (Zi rfl) rfl ?_
         refine Ve ?_
         obtain rfl := Wd hF
         refine Xk ?_
         exact Vm rfl [(0, 0)] (by decide) ⟨Vh rfl (.vs _ _), Vt 0 0 rfl rfl, Vh rfl (.vs _ _), Vh rfl (.int _ _), Vh rfl (.bool _), Vh rfl (.vs _ _), Vh rfl (.int _ _), Vh rfl (.int _ _), trivial⟩ ⟨⟨_, rfl, rfl, .same _ _ _ _ (Vn ⟨Vo ⟨.vs _ _, .vs _ _, trivial⟩, trivial⟩)⟩, trivial⟩
        ·have hF := Yr c30 hF
         obtain ⟨x31, h32, hF⟩ := Yf hF
         rcases Wg (decide (x31.Low < 0)) with c33 | c33
         ·have hF := Yq c33 hF
          obtain ⟨x34, h35, hF⟩ := Yf hF
          refine Va (Xw rfl) rfl ?_
          refine Va (Vk rfl) rfl ?_
          refine Va (Xo (Xu rfl rfl h26 te_23 ts_44) (v' := .vptr [.int .i64 x25.Low, .int .i64 x25.High] 0) rfl) rfl ?_
          refine Va (Xq rfl tf_44_1 ts_3 (by decide)) rfl ?_
          refine Va (Xe rfl ta_3 rfl) rfl ?_
          refine Va (Zq rfl rfl) rfl ?_
          refine Va (Vr rfl) rfl ?_
          refine Xd rfl rfl c27 ?_
          refine Va (Xa (ds := [.vs 2 (Wa T_Place.enc x1.1.Mine.Places), .vs 10 (Wa T_Road.enc x1.1.Mine.Roads)]) rfl (Vg rfl rfl) rfl ta_27 ts_27 rfl rfl rfl) rfl ?_
          refine Xd rfl rfl c27 ?_
          refine Va (Xw rfl) rfl ?_
          refine Xd rfl rfl c27 ?_
          refine Va (Vb rfl tf_46_1 ts_3 (by decide)) rfl ?_
          refine Xd rfl rfl c27 ?_
          refine Va (Vj rfl (Vg rfl rfl) rfl ta_3 rfl) rfl ?_
          refine Xd rfl rfl c27 ?_
          refine Va (Vb rfl tf_46_0 ts_3 (by decide)) rfl ?_
          refine Xd rfl rfl c27 ?_
          refine Va (Vj rfl (Vg rfl rfl) rfl ta_3 rfl) rfl ?_
          refine Xd rfl rfl c27 ?_
          refine Va (Yn rfl) rfl ?_
          refine Xd rfl rfl c27 ?_
          refine Vi (Vz (ps := [((low.length + 2), ⟨4, 1, Wa Wc x28.1, 0⟩)]) (r := .bool x28.2) (os := []) (low1 := low) (loc1 := [⟨27, 2, [.agg [.vs 2 (Wa T_Place.enc x1.1.Mine.Places), .vs 10 (Wa T_Road.enc x1.1.Mine.Roads)]], 0⟩, ⟨46, 10, [.agg [.int .i64 x10.From, .int .i64 x10.To, .int .i64 x10.Length, .int .i64 x10.Area, .bool x10.Walk, .bool x10.Closed, .int .i64 x10.Rest.Low, .int .i64 x10.Rest.High, .int .i64 x10.Lift.Low, .int .i64 x10.Lift.High]], 0⟩, ⟨4, 1, Wa Wc x28.1, 0⟩]) (loc2 := [⟨27, 2, [.agg [.vs 2 (Wa T_Place.enc x1.1.Mine.Places), .vs 10 (Wa T_Road.enc x1.1.Mine.Roads)]], 0⟩, ⟨46, 10, [.agg [.int .i64 x10.From, .int .i64 x10.To, .int .i64 x10.Length, .int .i64 x10.Area, .bool x10.Walk, .bool x10.Closed, .int .i64 x10.Rest.Low, .int .i64 x10.Rest.High, .int .i64 x10.Lift.Low, .int .i64 x10.Lift.High]], 0⟩, ⟨4, 1, Wa Wc x28.1, 0⟩]) rfl Try.call15 (F_law14_walks_ok h29 (nd1 na0 nd0) (Eq.trans rfl List.length_set.symm) (get_N rfl rfl) (Xs rfl rfl)) (Zv (loc2 := [⟨27, 2, [.agg [.vs 2 (Wa T_Place.enc x1.1.Mine.Places), .vs 10 (Wa T_Road.enc x1.1.Mine.Roads)]], 0⟩, ⟨46, 10, [.agg [.int .i64 x10.From, .int .i64 x10.To, .int .i64 x10.Length, .int .i64 x10.Area, .bool x10.Walk, .bool x10.Closed, .int .i64 x10.Rest.Low, .int .i64 x10.Rest.High, .int .i64 x10.Lift.Low, .int .i64 x10.Lift.High]], 0⟩, ⟨4, 1, Wa Wc x28.1, 0⟩]) rfl 2 rfl Xf) rfl) rfl ?_
          refine Va (Xc (congrArg Wc c27) rfl) rfl ?_
          refine Va (Vr rfl) rfl ?_
          refine Xd rfl rfl c30 ?_
          refine Va (Xw rfl) rfl ?_
          refine Xd rfl rfl c30 ?_
          refine Va (Vk rfl) rfl ?_
          refine Xd rfl rfl c30 ?_
          refine Va (Xo (Xu rfl rfl h32 te_23 ts_44) (v' := .vptr [.int .i64 x31.Low, .int .i64 x31.High] 0) rfl) rfl ?_
          refine Xd rfl rfl c30 ?_
          refine Va (Xq rfl tf_44_0 ts_3 (by decide)) rfl ?_
          refine Xd rfl rfl c30 ?_
          refine Va (Xe rfl ta_3 rfl) rfl ?_
          refine Xd rfl rfl c30 ?_
          refine Va (Yz rfl rfl) rfl ?_
          refine Xd rfl rfl c30 ?_
          refine Va (Vr rfl) rfl ?_
          refine Xd rfl rfl c33 ?_
          refine Va (Xa (ds := [.vs 2 (Wa T_Place.enc x1.1.Mine.Places), .vs 10 (Wa T_Road.enc x1.1.Mine.Roads)]) rfl (Vg rfl rfl) rfl ta_27 ts_27 rfl rfl rfl) rfl ?_
          refine Xd rfl rfl c33 ?_
          refine Va (Xw rfl) rfl ?_
          refine Xd rfl rfl c33 ?_
          refine Va (Vb rfl tf_46_0 ts_3 (by decide)) rfl ?_
          refine Xd rfl rfl c33 ?_
          refine Va (Vj rfl (Vg rfl rfl) rfl ta_3 rfl) rfl ?_
          refine Xd rfl rfl c33 ?_
          refine Va (Vb rfl tf_46_1 ts_3 (by decide)) rfl ?_
          refine Xd rfl rfl c33 ?_
          refine Va (Vj rfl (Vg rfl rfl) rfl ta_3 rfl) rfl ?_
          refine Xd rfl rfl c33 ?_
          refine Va (Yn rfl) rfl ?_
          refine Xd rfl rfl c33 ?_
          refine Vi (Vz (ps := [((low.length + 2), ⟨4, 1, Wa Wc x34.1, 0⟩)]) (r := .bool x34.2) (os := []) (low1 := low) (loc1 := [⟨27, 2, [.agg [.vs 2 (Wa T_Place.enc x1.1.Mine.Places), .vs 10 (Wa T_Road.enc x1.1.Mine.Roads)]], 0⟩, ⟨46, 10, [.agg [.int .i64 x10.From, .int .i64 x10.To, .int .i64 x10.Length, .int .i64 x10.Area, .bool x10.Walk, .bool x10.Closed, .int .i64 x10.Rest.Low, .int .i64 x10.Rest.High, .int .i64 x10.Lift.Low, .int .i64 x10.Lift.High]], 0⟩, ⟨4, 1, Wa Wc x34.1, 0⟩]) (loc2 := [⟨27, 2, [.agg [.vs 2 (Wa T_Place.enc x1.1.Mine.Places), .vs 10 (Wa T_Road.enc x1.1.Mine.Roads)]], 0⟩, ⟨46, 10, [.agg [.int .i64 x10.From, .int .i64 x10.To, .int .i64 x10.Length, .int .i64 x10.Area, .bool x10.Walk, .bool x10.Closed, .int .i64 x10.Rest.Low, .int .i64 x10.Rest.High, .int .i64 x10.Lift.Low, .int .i64 x10.Lift.High]], 0⟩, ⟨4, 1, Wa Wc x34.1, 0⟩]) rfl Try.call15 (F_law14_walks_ok h35 (nd1 na0 nd0) (F_law14_walks_len h29 (Eq.trans rfl List.length_set.symm)).1 (get_N rfl rfl) (Xs rfl rfl)) (Zv (loc2 := [⟨27, 2, [.agg [.vs 2 (Wa T_Place.enc x1.1.Mine.Places), .vs 10 (Wa T_Road.enc x1.1.Mine.Roads)]], 0⟩, ⟨46, 10, [.agg [.int .i64 x10.From, .int .i64 x10.To, .int .i64 x10.Length, .int .i64 x10.Area, .bool x10.Walk, .bool x10.Closed, .int .i64 x10.Rest.Low, .int .i64 x10.Rest.High, .int .i64 x10.Lift.Low, .int .i64 x10.Lift.High]], 0⟩, ⟨4, 1, Wa Wc x34.1, 0⟩]) rfl 2 rfl Xf) rfl) rfl ?_
          refine Xd rfl rfl c30 ?_
          refine Va (Xc (congrArg Wc c33) rfl) rfl ?_
          refine Va (Vy (congrArg Wc c30) rfl) rfl ?_
          refine Va (Zi rfl) rfl ?_
          refine Ve ?_
          obtain rfl := Wd hF
          refine Xk ?_
          exact Vm rfl [(0, 0)] (by decide) ⟨Vh rfl (.vs _ _), Vt 0 0 rfl rfl, Vh rfl (.vs _ _), Vh rfl (.int _ _), Vh rfl (.bool _), Vh rfl (.vs _ _), Vh rfl (.int _ _), Vh rfl (.int _ _), trivial⟩ ⟨⟨_, rfl, rfl, .same _ _ _ _ (Vn ⟨Vo ⟨.vs _ _, .vs _ _, trivial⟩, trivial⟩)⟩, trivial⟩
         ·have hF := Yr c33 hF
          refine Va (Xw rfl) rfl ?_
          refine Va (Vk rfl) rfl ?_
          refine Va (Xo (Xu rfl rfl h26 te_23 ts_44) (v' := .vptr [.int .i64 x25.Low, .int .i64 x25.High] 0) rfl) rfl ?_
          refine Va (Xq rfl tf_44_1 ts_3 (by decide)) rfl ?_
          refine Va (Xe rfl ta_3 rfl) rfl ?_
          refine Va (Zq rfl rfl) rfl ?_
          refine Va (Vr rfl) rfl ?_
          refine Xd rfl rfl c27 ?_
          refine Va (Xa (ds := [.vs 2 (Wa T_Place.enc x1.1.Mine.Places), .vs 10 (Wa T_Road.enc x1.1.Mine.Roads)]) rfl (Vg rfl rfl) rfl ta_27 ts_27 rfl rfl rfl) rfl ?_
          refine Xd rfl rfl c27 ?_
          refine Va (Xw rfl) rfl ?_
          refine Xd rfl rfl c27 ?_
          refine Va (Vb rfl tf_46_1 ts_3 (by decide)) rfl ?_
          refine Xd rfl rfl c27 ?_
          refine Va (Vj rfl (Vg rfl rfl) rfl ta_3 rfl) rfl ?_
          refine Xd rfl rfl c27 ?_
          refine Va (Vb rfl tf_46_0 ts_3 (by decide)) rfl ?_
          refine Xd rfl rfl c27 ?_
          refine Va (Vj rfl (Vg rfl rfl) rfl ta_3 rfl) rfl ?_
          refine Xd rfl rfl c27 ?_
          refine Va (Yn rfl) rfl ?_
          refine Xd rfl rfl c27 ?_
          refine Vi (Vz (ps := [((low.length + 2), ⟨4, 1, Wa Wc x28.1, 0⟩)]) (r := .bool x28.2) (os := []) (low1 := low) (loc1 := [⟨27, 2, [.agg [.vs 2 (Wa T_Place.enc x1.1.Mine.Places), .vs 10 (Wa T_Road.enc x1.1.Mine.Roads)]], 0⟩, ⟨46, 10, [.agg [.int .i64 x10.From, .int .i64 x10.To, .int .i64 x10.Length, .int .i64 x10.Area, .bool x10.Walk, .bool x10.Closed, .int .i64 x10.Rest.Low, .int .i64 x10.Rest.High, .int .i64 x10.Lift.Low, .int .i64 x10.Lift.High]], 0⟩, ⟨4, 1, Wa Wc x28.1, 0⟩]) (loc2 := [⟨27, 2, [.agg [.vs 2 (Wa T_Place.enc x1.1.Mine.Places), .vs 10 (Wa T_Road.enc x1.1.Mine.Roads)]], 0⟩, ⟨46, 10, [.agg [.int .i64 x10.From, .int .i64 x10.To, .int .i64 x10.Length, .int .i64 x10.Area, .bool x10.Walk, .bool x10.Closed, .int .i64 x10.Rest.Low, .int .i64 x10.Rest.High, .int .i64 x10.Lift.Low, .int .i64 x10.Lift.High]], 0⟩, ⟨4, 1, Wa Wc x28.1, 0⟩]) rfl Try.call15 (F_law14_walks_ok h29 (nd1 na0 nd0) (Eq.trans rfl List.length_set.symm) (get_N rfl rfl) (Xs rfl rfl)) (Zv (loc2 := [⟨27, 2, [.agg [.vs 2 (Wa T_Place.enc x1.1.Mine.Places), .vs 10 (Wa T_Road.enc x1.1.Mine.Roads)]], 0⟩, ⟨46, 10, [.agg [.int .i64 x10.From, .int .i64 x10.To, .int .i64 x10.Length, .int .i64 x10.Area, .bool x10.Walk, .bool x10.Closed, .int .i64 x10.Rest.Low, .int .i64 x10.Rest.High, .int .i64 x10.Lift.Low, .int .i64 x10.Lift.High]], 0⟩, ⟨4, 1, Wa Wc x28.1, 0⟩]) rfl 2 rfl Xf) rfl) rfl ?_
          refine Va (Xc (congrArg Wc c27) rfl) rfl ?_
          refine Va (Vr rfl) rfl ?_
          refine Xd rfl rfl c30 ?_
          refine Va (Xw rfl) rfl ?_
          refine Xd rfl rfl c30 ?_
          refine Va (Vk rfl) rfl ?_
          refine Xd rfl rfl c30 ?_
          refine Va (Xo (Xu rfl rfl h32 te_23 ts_44) (v' := .vptr [.int .i64 x31.Low, .int .i64 x31.High] 0) rfl) rfl ?_
          refine Xd rfl rfl c30 ?_
          refine Va (Xq rfl tf_44_0 ts_3 (by decide)) rfl ?_
          refine Xd rfl rfl c30 ?_
          refine Va (Xe rfl ta_3 rfl) rfl ?_
          refine Xd rfl rfl c30 ?_
          refine Va (Yz rfl rfl) rfl ?_
          refine Xd rfl rfl c30 ?_
          refine Va (Vr rfl) rfl ?_
          refine Vc rfl rfl (Ze c33) rfl ?_
          refine Vc rfl rfl (Ze c33) rfl ?_
          refine Vc rfl rfl (Ze c33) rfl ?_
          refine Vc rfl rfl (Ze c33) rfl ?_
          refine Vc rfl rfl (Ze c33) rfl ?_
          refine Vc rfl rfl (Ze c33) rfl ?_
          refine Vc rfl rfl (Ze c33) rfl ?_
          refine Vc rfl rfl (Ze c33) rfl ?_
          refine Xd rfl rfl c30 ?_
          refine Va (Vy (congrArg Wc c33) rfl) rfl ?_
          refine Va (Vy (congrArg Wc c30) rfl) rfl ?_
          refine Va (Zi rfl) rfl ?_
          refine Ve ?_
          obtain rfl := Wd hF
          refine Xk ?_
          exact Vm rfl [(0, 0)] (by decide) ⟨Vh rfl (.vs _ _), Vt 0 0 rfl rfl, Vh rfl (.vs _ _), Vh rfl (.int _ _), Vh rfl (.bool _), Vh rfl (.vs _ _), Vh rfl (.int _ _), Vh rfl (.int _ _), trivial⟩ ⟨⟨_, rfl, rfl, .same _ _ _ _ (Vn ⟨Vo ⟨.vs _ _, .vs _ _, trivial⟩, trivial⟩)⟩, trivial⟩
       ·have hF := Yr c27 hF
        obtain ⟨x36, h37, hF⟩ := Yf hF
        rcases Wg (decide (x36.Low < 0)) with c38 | c38
        ·have hF := Yq c38 hF
         obtain ⟨x39, h40, hF⟩ := Yf hF
         refine Va (Xw rfl) rfl ?_
         refine Va (Vk rfl) rfl ?_
         refine Va (Xo (Xu rfl rfl h26 te_23 ts_44) (v' := .vptr [.int .i64 x25.Low, .int .i64 x25.High] 0) rfl) rfl ?_
         refine Va (Xq rfl tf_44_1 ts_3 (by decide)) rfl ?_
         refine Va (Xe rfl ta_3 rfl) rfl ?_
         refine Va (Zq rfl rfl) rfl ?_
         refine Va (Vr rfl) rfl ?_
         refine Vc rfl rfl (Ze c27) rfl ?_
         refine Vc rfl rfl (Ze c27) rfl ?_
         refine Vc rfl rfl (Ze c27) rfl ?_
         refine Vc rfl rfl (Ze c27) rfl ?_
         refine Vc rfl rfl (Ze c27) rfl ?_
         refine Vc rfl rfl (Ze c27) rfl ?_
         refine Vc rfl rfl (Ze c27) rfl ?_
         refine Vc rfl rfl (Ze c27) rfl ?_
         refine Va (Vy (congrArg Wc c27) rfl) rfl ?_
         refine Va (Vr rfl) rfl ?_
         refine Xl rfl rfl ?_
         refine Va (Xw rfl) rfl ?_
         refine Xl rfl rfl ?_
         refine Va (Vk rfl) rfl ?_
         refine Xl rfl rfl ?_
         refine Va (Xo (Xu rfl rfl h37 te_23 ts_44) (v' := .vptr [.int .i64 x36.Low, .int .i64 x36.High] 0) rfl) rfl ?_
         refine Xl rfl rfl ?_
         refine Va (Xq rfl tf_44_0 ts_3 (by decide)) rfl ?_
         refine Xl rfl rfl ?_
         refine Va (Xe rfl ta_3 rfl) rfl ?_
         refine Xl rfl rfl ?_
         refine Va (Yz rfl rfl) rfl ?_
         refine Xl rfl rfl ?_
         refine Va (Vr rfl) rfl ?_
         refine Xd rfl rfl c38 ?_
         refine Va (Xa (ds := [.vs 2 (Wa T_Place.enc x1.1.Mine.Places), .vs 10 (Wa T_Road.enc x1.1.Mine.Roads)]) rfl (Vg rfl rfl) rfl ta_27 ts_27 rfl rfl rfl) rfl ?_
         refine Xd rfl rfl c38 ?_
         refine Va (Xw rfl) rfl ?_
         refine Xd rfl rfl c38 ?_
         refine Va (Vb rfl tf_46_0 ts_3 (by decide)) rfl ?_
         refine Xd rfl rfl c38 ?_
         refine Va (Vj rfl (Vg rfl rfl) rfl ta_3 rfl) rfl ?_
         refine Xd rfl rfl c38 ?_
         refine Va (Vb rfl tf_46_1 ts_3 (by decide)) rfl ?_
         refine Xd rfl rfl c38 ?_
         refine Va (Vj rfl (Vg rfl rfl) rfl ta_3 rfl) rfl ?_
         refine Xd rfl rfl c38 ?_
         refine Va (Yn rfl) rfl ?_
         refine Xd rfl rfl c38 ?_
         refine Vi (Vz (ps := [((low.length + 2), ⟨4, 1, Wa Wc x39.1, 0⟩)]) (r := .bool x39.2) (os := []) (low1 := low) (loc1 := [⟨27, 2, [.agg [.vs 2 (Wa T_Place.enc x1.1.Mine.Places), .vs 10 (Wa T_Road.enc x1.1.Mine.Roads)]], 0⟩, ⟨46, 10, [.agg [.int .i64 x10.From, .int .i64 x10.To, .int .i64 x10.Length, .int .i64 x10.Area, .bool x10.Walk, .bool x10.Closed, .int .i64 x10.Rest.Low, .int .i64 x10.Rest.High, .int .i64 x10.Lift.Low, .int .i64 x10.Lift.High]], 0⟩, ⟨4, 1, Wa Wc x39.1, 0⟩]) (loc2 := [⟨27, 2, [.agg [.vs 2 (Wa T_Place.enc x1.1.Mine.Places), .vs 10 (Wa T_Road.enc x1.1.Mine.Roads)]], 0⟩, ⟨46, 10, [.agg [.int .i64 x10.From, .int .i64 x10.To, .int .i64 x10.Length, .int .i64 x10.Area, .bool x10.Walk, .bool x10.Closed, .int .i64 x10.Rest.Low, .int .i64 x10.Rest.High, .int .i64 x10.Lift.Low, .int .i64 x10.Lift.High]], 0⟩, ⟨4, 1, Wa Wc x39.1, 0⟩]) rfl Try.call15 (F_law14_walks_ok h40 (nd1 na0 nd0) (Eq.trans rfl List.length_set.symm) (get_N rfl rfl) (Xs rfl rfl)) (Zv (loc2 := [⟨27, 2, [.agg [.vs 2 (Wa T_Place.enc x1.1.Mine.Places), .vs 10 (Wa T_Road.enc x1.1.Mine.Roads)]], 0⟩, ⟨46, 10, [.agg [.int .i64 x10.From, .int .i64 x10.To, .int .i64 x10.Length, .int .i64 x10.Area, .bool x10.Walk, .bool x10.Closed, .int .i64 x10.Rest.Low, .int .i64 x10.Rest.High, .int .i64 x10.Lift.Low, .int .i64 x10.Lift.High]], 0⟩, ⟨4, 1, Wa Wc x39.1, 0⟩]) rfl 2 rfl Xf) rfl) rfl ?_
         refine Xl rfl rfl ?_
         refine Va (Xc (congrArg Wc c38) rfl) rfl ?_
         refine Va (Vy rfl rfl) rfl ?_
         refine Va (Zi rfl) rfl ?_
         refine Ve ?_
         obtain rfl := Wd hF
         refine Xk ?_
         exact Vm rfl [(0, 0)] (by decide) ⟨Vh rfl (.vs _ _), Vt 0 0 rfl rfl, Vh rfl (.vs _ _), Vh rfl (.int _ _), Vh rfl (.bool _), Vh rfl (.vs _ _), Vh rfl (.int _ _), Vh rfl (.int _ _), trivial⟩ ⟨⟨_, rfl, rfl, .same _ _ _ _ (Vn ⟨Vo ⟨.vs _ _, .vs _ _, trivial⟩, trivial⟩)⟩, trivial⟩
        ·have hF := Yr c38 hF
         refine Va (Xw rfl) rfl ?_
         refine Va (Vk rfl) rfl ?_
         refine Va (Xo (Xu rfl rfl h26 te_23 ts_44) (v' := .vptr [.int .i64 x25.Low, .int .i64 x25.High] 0) rfl) rfl ?_
         refine Va (Xq rfl tf_44_1 ts_3 (by decide)) rfl ?_
         refine Va (Xe rfl ta_3 rfl) rfl ?_
         refine Va (Zq rfl rfl) rfl ?_
         refine Va (Vr rfl) rfl ?_
         refine Vc rfl rfl (Ze c27) rfl ?_
         refine Vc rfl rfl (Ze c27) rfl ?_
         refine Vc rfl rfl (Ze c27) rfl ?_
         refine Vc rfl rfl (Ze c27) rfl ?_
         refine Vc rfl rfl (Ze c27) rfl ?_
         refine Vc rfl rfl (Ze c27) rfl ?_
         refine Vc rfl rfl (Ze c27) rfl ?_
         refine Vc rfl rfl (Ze c27) rfl ?_
         refine Va (Vy (congrArg Wc c27) rfl) rfl ?_
         refine Va (Vr rfl) rfl ?_
         refine Xl rfl rfl ?_
         refine Va (Xw rfl) rfl ?_
         refine Xl rfl rfl ?_
         refine Va (Vk rfl) rfl ?_
         refine Xl rfl rfl ?_
         refine Va (Xo (Xu rfl rfl h37 te_23 ts_44) (v' := .vptr [.int .i64 x36.Low, .int .i64 x36.High] 0) rfl) rfl ?_
         refine Xl rfl rfl ?_
         refine Va (Xq rfl tf_44_0 ts_3 (by decide)) rfl ?_
         refine Xl rfl rfl ?_
         refine Va (Xe rfl ta_3 rfl) rfl ?_
         refine Xl rfl rfl ?_
         refine Va (Yz rfl rfl) rfl ?_
         refine Xl rfl rfl ?_
         refine Va (Vr rfl) rfl ?_
         refine Vc rfl rfl (Ze c38) rfl ?_
         refine Vc rfl rfl (Ze c38) rfl ?_
         refine Vc rfl rfl (Ze c38) rfl ?_
         refine Vc rfl rfl (Ze c38) rfl ?_
         refine Vc rfl rfl (Ze c38) rfl ?_
         refine Vc rfl rfl (Ze c38) rfl ?_
         refine Vc rfl rfl (Ze c38) rfl ?_
         refine Vc rfl rfl (Ze c38) rfl ?_
         refine Xl rfl rfl ?_
         refine Va (Vy (congrArg Wc c38) rfl) rfl ?_
         refine Va (Vy rfl rfl) rfl ?_
         refine Va (Zi rfl) rfl ?_
         refine Ve ?_
         obtain rfl := Wd hF
         refine Xk ?_
         exact Vm rfl [(0, 0)] (by decide) ⟨Vh rfl (.vs _ _), Vt 0 0 rfl rfl, Vh rfl (.vs _ _), Vh rfl (.int _ _), Vh rfl (.bool _), Vh rfl (.vs _ _), Vh rfl (.int _ _), Vh rfl (.int _ _), trivial⟩ ⟨⟨_, rfl, rfl, .same _ _ _ _ (Vn ⟨Vo ⟨.vs _ _, .vs _ _, trivial⟩, trivial⟩)⟩, trivial⟩
      ·have hF := Yr c20 hF
       refine Xj ?_
       obtain rfl := Wd hF
       refine Xk ?_
       exact Vm rfl [(0, 0)] (by decide) ⟨Vh rfl (.vs _ _), Vt 0 0 rfl rfl, Vh rfl (.vs _ _), Vh rfl (.int _ _), Vh rfl (.bool _), Vh rfl (.vs _ _), Vh rfl (.int _ _), Vh rfl (.int _ _), trivial⟩ ⟨⟨_, rfl, rfl, .same _ _ _ _ (Vn ⟨Vo ⟨.vs _ _, .vs _ _, trivial⟩, trivial⟩)⟩, trivial⟩
     ·rintro _ _ _ _ ⟨rfl, hw⟩
      refine ⟨_, _, _, hw, ?_⟩
      refine Vf ?_
      refine Vd ?_
      obtain ⟨x41, h42, hF⟩ := Yf hF
      refine Va (Vr rfl) rfl ?_
      refine Va (Xw rfl) rfl ?_
      refine Va (Vk rfl) rfl ?_
      refine Vi (Xx rfl Try.call16 (F_ref01_Has_ok h42 _)) rfl ?_
      refine Va (rd_neqB rfl rfl tbo_4) rfl ?_
      refine Ve ?_
      refine Xi rfl (fun c43 => ?_) (fun c43 => ?_)
      ·have hF := Yq c43 hF
       refine Vf ?_
       refine Vd ?_
       refine Va (Zi rfl) rfl ?_
       refine Ve ?_
       refine Yb ?_
       obtain rfl := Wd hF
       refine Xk ?_
       exact Vm rfl [] (by decide) ⟨Vh rfl (.bool _), trivial⟩ trivial
      ·have hF := Yr c43 hF
       refine Xj ?_
       refine Vd ?_
       refine Va (Zf rfl rfl rfl) rfl ?_
       refine Va (Vk rfl) rfl ?_
       refine Ve ?_
       obtain rfl := Wd hF
       refine Xk ?_
       exact Vp ⟨rfl, rfl, rfl, rfl, rfl, rfl, trivial⟩
   ·have hF := Yr c9 hF
    refine Zd ?_
    obtain rfl := Wd hF
    refine Xk ?_
    exact Vm rfl [] (by decide) trivial trivial
  ·rcases o6 with j7 | j8
   ·replace hF := elimL hF
    rintro _ _ _ _ ⟨rfl, hw⟩
    refine ⟨_, _, _, hw, ?_⟩
    obtain rfl := Wd hF
    refine fnR ?_
    exact Vp ⟨rfl, trivial⟩
   ·replace hF := elimR hF
    rintro _ _ _ _ ⟨rfl, hw⟩
    refine ⟨_, _, _, hw, ?_⟩
    refine Vf ?_
    refine Vd ?_
    obtain ⟨x44, h45, hF⟩ := Yf hF
    refine Vi (Xx rfl Try.call14 (F_law14_awake_ok h45 _)) rfl ?_
    refine Va (Zi rfl) rfl ?_
    refine Ve ?_
    refine Yb ?_
    obtain rfl := Wd hF
    refine fnR ?_
    exact Vp ⟨rfl, trivial⟩
 ·rintro _ _ _ _ ⟨he, hw⟩
  refine ⟨_, _, _, hw, ?_⟩
  exact Zc he [.bool r] ⟨rfl, trivial⟩ (.bool _) ⟨rfl, rfl⟩

end Go.Proofs.Ytaedmgkcmbhicaa
